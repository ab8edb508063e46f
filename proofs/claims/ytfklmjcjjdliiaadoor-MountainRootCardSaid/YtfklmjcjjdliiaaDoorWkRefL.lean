/- The reference reader of layer 2: Numbers and Texts do what the plain functions say; for a reader that lies in a block of its own. -/
import Derived.Test.YtfklmjcjjdliiaaDoorWkRef
namespace Go.Proofs.YtfklmjcjjdliiaaDoor
open Go Go.RowKit Licit

theorem rinfo_I : (Tryd.prog.info? 3).map (fun i => (i.zero, i.size, i.bytes)) = some (some (.int .i64 0), 1, 8) := by kernel_rfl
theorem rinfo_S : (Tryd.prog.info? 9).map (fun i => (i.zero, i.size, i.bytes)) = some (some (.string ⟨#[]⟩), 1, 16) := by kernel_rfl

set_option maxRecDepth 100000 in
set_option maxHeartbeats 1600000 in
theorem rtexts_any (r : Nat) (s : ByteArray) (E most : Int) (w : World) (h : RRdr r s E w) (hs : s.size ≤ 281474976710656) :
    Calls Tryd.prog 70 #[.pointer (some ⟨r, 0, none⟩), .int .i64 most] w (RRdrToL w.heap.size 9 r w ((rdTexts most (s.data.toList, E)).1.map vS) (rdTexts most (s.data.toList, E)).2) := by
  obtain ⟨i0, hi, hz0, hz1, hz2⟩ := info_parts rinfo_S
  have H := Lib.hid h
  have hrl := lt_of h
  clear h
  have hlen := rdNum_len 0 1024 (s.data.toList, E)
  have hres := rdNum_res 0 1024 (s.data.toList, E)
  rw [size_list] at hlen
  obtain ⟨n, hn⟩ : ∃ n : Nat, (rdNum 0 1024 (s.data.toList, E)).1 = (n : Int) := ⟨(rdNum 0 1024 (s.data.toList, E)).1.toNat, by omega⟩
  have hn' : n ≤ 1024 := by omega
  clear hres
  obtain ⟨st1, hst1⟩ : ∃ st1, st1 = (rdNum 0 1024 (s.data.toList, E)).2 := ⟨_, rfl⟩
  rw [← hst1] at hlen
  have HN := Lib.hid hn
  have HST := Lib.hid hst1
  clear hn hst1
  unfold rdTexts
  go_enter Tryd.func70, Tryd.ntmps70
  go_wp2_with (go_at_call 69; refine (rnumber_any r s E _ _ _ H.out (by unfold maxLen; omega)).mono ?_; rw [HN.out, ← HST.out]; rintro e w1 ⟨rfl, hA, hK⟩)
  have HA := Lib.hid hA
  have HK := Lib.hid hK
  clear hA hK
  go_loopw [6, 7] (fun v i wr => ∃ (k : Nat) (acc : List Bs) (st : St), k ≤ n ∧ i = .int .i64 k ∧ acc.length = k ∧ wr.ownsRow w.heap.size 9 1 v acc.length (acc.map vS) ∧ RRdr r (B st.1) st.2 wr ∧ st.1.length ≤ s.size ∧ Kept (One r) w wr ∧ RdAt (rdText most) n st1 k acc st) (fun _ i _ => n - (intOf i).toNat)
  case atStart => exact ⟨0, [], st1, Nat.zero_le _, rfl, rfl, World.ownsRow_nil _ _ _ _, HA.out, hlen, HK.out, RdAt.start _ _ _⟩
  case round =>
    obtain ⟨k, acc, st, hk, rfl, hacc, hown, hR, hsl, hK, hat⟩ := hrel
    have d1 := hR.c1
    have hsz1 := hK.size
    have HR := Lib.hid hR
    have HKK := Lib.hid hK
    have HAT := Lib.hid hat
    have HOWN := Lib.hid hown
    have hacc' : acc.length ≤ 1024 := by omega
    have HACC := Lib.hid hacc
    clear hR hK hat hown hacc
    by_cases hlt : k < n
    · by_cases h0 : st.2 = 0
      · have h0' : (st.2 == 0) = true := by simp [h0]
        have H0 := Lib.hid h0
        clear h0
        go_wp2_with (first
          | (go_at_call 91; refine (rtext_any r (B st.1) st.2 most _ HR.out (by rw [B_size]; first | omega | (unfold maxLen; omega))).mono ?_; rw [B_list]; rintro e w2 ⟨rfl, hA2, hK2⟩; have HA2 := Lib.hid hA2; have HK2 := Lib.hid hK2; have hown2 := ownsRow_kept HOWN.out hK2 (fun k hk => by show ¬ k = r; omega); have hsz2 := hK2.size; clear hA2 hK2)
          | (at_builtin; refine wpList_append_own _ rfl (.tmp 22) (.tmp 26) 22 rfl w.heap.size 9 i0 _ 1 16 Tryd.underlying22 hi hz0 hz1 hz2 rfl (by decide) _ _ _ rfl (hown2.alloc _) ⟨w2.heap.size, 0, none⟩ 1 1 [vS (rdText most st).1] rfl rfl ?c1 ?c2 ?c3 ?c4 ?c5 ?_))
        case c1 => exact news_one (new_of _ _)
        case c2 => simp [vS, Value.oneCell']
        case c3 => unfold maxLen; omega
        case c4 => omega
        case c5 => simp; omega
        intro v' w3 hown3 hgrow3 _
        have hrow : ∀ q, u6.ownBlock = some q → w.heap.size ≤ q := fun q hq => (hown2.lt q hq).1
        have HG := Lib.hid hgrow3
        have HO := Lib.hid hown3
        clear hgrow3 hown3 hown2
        go_wp2
        go_roundw
        case rel =>
          refine ⟨k + 1, acc ++ [(rdText most st).1], (rdText most st).2, by omega, by go_num, by simp [HACC.out], ?_, ?_, ?_, ?_, HAT.out.step hlt H0.out⟩
          · simpa using HO.out
          · exact HA2.out.grown HG.out (fun e => by have := hrow r e; omega)
          · exact Nat.le_trans (rdText_len _ _) hsl
          · exact ((HKK.out.trans HK2.out).alloc _).grown HG.out (fun q hq => .inl (hrow q hq))
        case measure => simp [intOf]; omega
      · have h0' : (st.2 == 0) = false := by simpa using h0
        have h0'' : (st.2 != 0) = true := by simpa using h0
        have hend : rdMany (rdText most) (s.data.toList, E) = ([], st) := by
          rw [rdMany_of HN.out HST.out (HAT.out.stop (.inr h0))]; simp [h0]
        have HE := Lib.hid hend
        clear hend h0
        go_wp2
        go_ret
        exact ⟨_, rfl, by rw [HE.out]; exact World.ownsRow_nil _ _ _ _, by rw [HE.out]; exact HR.out, HKK.out⟩
    · have hend0 : rdLoop (rdText most) n st1 = (acc, st) := HAT.out.stop (.inl (by omega))
      by_cases h0 : st.2 = 0
      · have h0' : (st.2 != 0) = false := by simp [h0]
        have hend : rdMany (rdText most) (s.data.toList, E) = (acc, st) := by
          rw [rdMany_of HN.out HST.out hend0]; simp [h0]
        have HE := Lib.hid hend
        clear hend hend0 h0
        go_wp2
        go_ret
        exact ⟨_, rfl, by rw [HE.out, List.length_map]; exact HOWN.out, by rw [HE.out]; exact HR.out, HKK.out⟩
      · have h0' : (st.2 != 0) = true := by simpa using h0
        have hend : rdMany (rdText most) (s.data.toList, E) = ([], st) := by
          rw [rdMany_of HN.out HST.out hend0]; simp [h0]
        have HE := Lib.hid hend
        clear hend hend0 h0
        go_wp2
        go_ret
        exact ⟨_, rfl, by rw [HE.out]; exact World.ownsRow_nil _ _ _ _, by rw [HE.out]; exact HR.out, HKK.out⟩

end Go.Proofs.YtfklmjcjjdliiaaDoor
