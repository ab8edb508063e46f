/- The reference's Sum is the plain digest. -/
import Derived.Test.YtfklmjcjjdliiaaDoorShaPermR
import Derived.Test.YtfklmjcjjdliiaaDoorFrmBytes
namespace Go.Proofs.YtfklmjcjjdliiaaDoor
open Go Go.RowKit Licit Licit.Sha

theorem Tryd.infoByteR : (Tryd.prog.info? 5).map (fun i => (i.zero, i.size, i.bytes)) = some (some (.int .u8 0), 1, 1) := by kernel_rfl

def slLen : Value → Nat | .slice _ n _ => n | _ => 0

theorem bor8 (x y : UInt8) : bits .or .u8 (x.toNat : Int) (y.toNat : Int) = ((x ||| y).toNat : Int) := by
  rw [u8_or_nat _ _ x.toNat_lt y.toNat_lt, UInt8.toNat_or]

set_option maxHeartbeats 4000000 in
set_option maxRecDepth 100000 in
theorem RSum_any (l : Bs) (w : World) (hl : l.length ≤ 1000000000000) :
    Calls Tryd.prog 74 #[.string (B l)] w fun e w' => e = .returned (.string (B (sha l))) ∧ Below w.heap.size w w' := by
  obtain ⟨R, hR⟩ : ∃ R, sha l = R := ⟨_, rfl⟩
  rw [hR]
  have HR := Lib.hid hR
  clear hR
  obtain ⟨i0, hi, hz0, hz1, hz2⟩ := info_parts Tryd.infoByteR
  have Hi := Lib.hid hi
  have Hz0 := Lib.hid hz0
  have Hz1 := Lib.hid hz1
  have Hz2 := Lib.hid hz2
  clear hi hz0 hz1 hz2
  go_enter Tryd.func74, Tryd.ntmps74
  go_wp2_with (first
    | (refine wpList_bytes rfl 9 98 5 _ rfl (B l) rfl Tryd.underlying9 Tryd.underlying98 Tryd.underlying5 (by unfold maxLen; rw [B_size]; omega) ?_
       intro v1 w1 ho1 hb1
       have ho1 : OwnB w1 w.heap.size 5 v1 l := ho1
       obtain ⟨g1, c1, rfl, hg1, hg1'⟩ := ho1.form
       have HO1 := Lib.hid ho1
       have HB1 := Lib.hid hb1
       clear ho1 hb1)
    | (at_builtin
       refine wpList_append_M _ rfl _ _ 98 rfl w.heap.size 5 i0 (.int .u8 0) 1 Tryd.underlying98 Hi.out Hz0.out Hz1.out Hz2.out rfl (.slice (some ⟨g1, 0, none⟩) l.length c1) (vBs l) rfl (OwnM.below HO1.out ((Below.refl _ _).alloc (Nat.le_refl _) _)) ⟨w1.heap.size, 0, none⟩ 1 1 (vBs [6]) rfl rfl (by decide) (news_one (new_of _ _)) (vBs_one _) (by rw [vBs_len]; unfold maxLen; omega) (by rw [vBs_len]; omega) (by have := HB1.out.size; simp; omega) ?_
       intro v2 w2 ho2 hb2
       have hb2' : Below w.heap.size w w2 := (HB1.out.alloc (HB1.out.size) _).trans hb2
       have ho2' : OwnB w2 w.heap.size 5 v2 (l ++ [6]) := OwnB.append ho2
       obtain ⟨g2, c2, rfl, hg2, hg2'⟩ := ho2'.formN (n := l.length + 1) (by simp)
       have HO2 := Lib.hid ho2'
       have HB2 := Lib.hid hb2'
       clear ho2' hb2' ho2 hb2))
  go_loopw [3] (fun v wr => ∃ k g c, k ≤ 135 - l.length % 136 ∧ v = .slice (some ⟨g, 0, none⟩) (l.length + 1 + k) c ∧ OwnB wr w.heap.size 5 v ((l ++ [6]) ++ List.replicate k 0) ∧ Below w.heap.size w wr) (fun v _ => l.length + 136 - slLen v)
  case atStart =>
    refine ⟨0, g2, c2, by omega, rfl, ?_, HB2.out⟩
    rw [List.replicate_zero, List.append_nil]; exact HO2.out
  case round =>
    obtain ⟨W1, rfl⟩ : ∃ W1, W1 = wr := ⟨_, rfl⟩
    obtain ⟨k, g, c, hk, rfl, hO, hB⟩ := hrel
    have hlen : ((l ++ [6]) ++ List.replicate k 0).length = l.length + 1 + k := by simp; omega
    by_cases hlt : k < 135 - l.length % 136
    · have hmod : (((l.length + 1 + k : Nat) : Int) % 136 != 0) = true := by simp; omega
      have HO := Lib.hid hO
      have HB := Lib.hid hB
      have HL := Lib.hid hlen
      clear hO hB hlen
      go_wp2_with (first
        | (at_builtin
           go_loud (
           refine wpList_append_M _ rfl _ _ 98 rfl w.heap.size 5 i0 (.int .u8 0) 1 Tryd.underlying98 Hi.out Hz0.out Hz1.out Hz2.out rfl (.slice (some ⟨g, 0, none⟩) (l.length + 1 + k) c) (vBs ((l ++ [6]) ++ List.replicate k 0)) rfl (OwnM.below HO.out ((Below.refl _ _).alloc (Nat.le_refl _) _)) ⟨W1.heap.size, 0, none⟩ 1 1 (vBs [0]) rfl rfl (by decide) (news_one (new_of _ _)) (vBs_one _) (by rw [vBs_len, HL.out]; unfold maxLen; omega) (by rw [vBs_len, HL.out]; omega) (by have := HB.out.size; simp; omega) ?_
           intro v2 w2 ho2 hb2
           have hb2' : Below w.heap.size w w2 := (HB.out.alloc (HB.out.size) _).trans hb2
           have ho2' : OwnB w2 w.heap.size 5 v2 ((l ++ [6]) ++ List.replicate k 0 ++ [0]) := OwnB.append ho2
           rw [List.append_assoc (l ++ [6]), ← List.replicate_succ'] at ho2'
           obtain ⟨g2, c2, rfl, hg2, hg2'⟩ := ho2'.formN (n := l.length + 1 + (k + 1)) (by simp; omega)
           have HO2 := Lib.hid ho2'
           have HB2 := Lib.hid hb2'
           clear ho2' hb2' ho2 hb2)))
      go_roundw
      case rel => exact ⟨k + 1, g2, c2, by omega, rfl, HO2.out, HB2.out⟩
      case measure => simp [slLen]; omega
    · have hmod : (((l.length + 1 + k : Nat) : Int) % 136 != 0) = false := by simp; omega
      have hpl := padded_len l
      obtain ⟨n, hn⟩ : ∃ n, l.length + 1 + k = n := ⟨_, rfl⟩
      have hk2 : k = 135 - l.length % 136 := by omega
      rw [hk2] at hO
      have hO : OwnB W1 w.heap.size 5 (.slice (some ⟨g, 0, none⟩) n c) (padded l) := by rw [← hn, hk2]; exact hO
      have hnq : n = 136 * (l.length / 136 + 1) := by omega
      rw [← hnq] at hpl
      obtain ⟨g', c', hgc, hg, hgl⟩ := hO.form
      obtain ⟨rfl, rfl⟩ : g = g' ∧ c = c' := by simp only [Value.slice.injEq, Option.some.injEq, Addr.mk.injEq] at hgc; exact ⟨hgc.1.1, hgc.2.2⟩
      have hgx : W1.cell? ⟨g, n - 1, none⟩ = some (.int .u8 (((padded l).getD (n - 1) 0).toNat : Int)) := hO.cell (by omega)
      have hfx := hO.free (i := n - 1) (by omega)
      have hx := bor8 ((padded l).getD (n - 1) 0) 128
      have hx : bits .or .u8 (((padded l).getD (n - 1) 0).toNat : Int) 128 = (((padded l).getD (n - 1) 0 ||| 128).toNat : Int) := hx
      obtain ⟨Rb, hRb⟩ : ∃ Rb, refB l = Rb := ⟨_, rfl⟩
      obtain ⟨y, hy⟩ : ∃ y, (padded l).getD (n - 1) 0 ||| 128 = y := ⟨_, rfl⟩
      have hOB := hO.set (i := n - 1) (by omega) y
      have hRb2 : (padded l).set (n - 1) y = Rb := by rw [← hRb, ← hy]; unfold refB; rw [hpl]
      have hRl : Rb.length = n := by rw [← hRb, refB_len, hnq]
      have hsha : outB (absN st0 Rb (l.length / 136 + 1)) = R := by rw [← hRb, ref_sha, HR.out]
      rw [hRb2] at hOB
      rw [hy] at hx
      obtain ⟨q, hq⟩ : ∃ q, l.length / 136 + 1 = q := ⟨_, rfl⟩
      rw [hq] at hsha hnq
      obtain ⟨X, hX⟩ : ∃ X, (padded l).getD (n - 1) 0 = X := ⟨_, rfl⟩
      rw [hX] at hgx hx
      have hn1 : (n : Int) - 1 = ((n - 1 : Nat) : Int) := by omega
      have hnl : n ≤ 2000000000000 := by omega
      have hn0 : 0 < n := by omega
      have HOB := Lib.hid hOB
      have HB := Lib.hid hB
      have HS := Lib.hid hsha
      have HRl := Lib.hid hRl
      have HNQ := Lib.hid hnq
      rw [hn] at hmod
      rw [hn]
      clear hO hB hlen hpl hk2 hgc hRb hy hOB hRb2 hRl hsha hnq hq hX hn
      go_wp2
      obtain ⟨W2, hW2⟩ : ∃ W2, W2 = W1.setCell ⟨g, n - 1, none⟩ (.int .u8 (y.toNat : Int)) := ⟨_, rfl⟩
      have hz2 : W2.heap.size = W1.heap.size := by rw [hW2]; simp [World.setCell]
      rw [← hW2]
      have hOB : OwnB W2 w.heap.size 5 (.slice (some ⟨g, 0, none⟩) n c) Rb := by rw [hW2]; exact HOB.out
      have hB2 : Below w.heap.size w W2 := by rw [hW2]; exact HB.out.setCell (p := ⟨g, n - 1, none⟩) hg _
      have HOB := Lib.hid hOB
      have HB2 := Lib.hid hB2
      clear hOB hB2 hW2
      go_loopw [5] (fun i wx => ∃ j : Nat, j ≤ q ∧ i = .int .i64 ((136 * j : Nat) : Int) ∧ wx.heap[W1.heap.size]? = some (.cells (wA 25 (absN st0 Rb j)) 99) ∧ Below W1.heap.size W2 wx) (fun i _ => n - (intOf i).toNat)
      case atStart => exact ⟨0, by omega, rfl, new_at hz2.symm rfl, (Below.refl _ _).alloc (Nat.le_of_eq hz2.symm) _⟩
      case round =>
        obtain ⟨j, hj, rfl, hs, hB⟩ := hrel
        obtain ⟨J, hJ⟩ : ∃ J, 136 * j = J := ⟨_, rfl⟩
        rw [hJ]
        obtain ⟨F, hF⟩ : ∃ F : Nat → UInt8, F = fun i => (Rb.drop J).getD i 0 := ⟨_, rfl⟩
        have HF := Lib.hid hF
        have HJ := Lib.hid hJ
        have HSt := Lib.hid hs
        have HBx := Lib.hid hB
        have hNQ := HNQ.out
        by_cases hlt : j < q
        · have hJn : J < n := by omega
          have hJm : J + 136 ≤ n := by omega
          clear hF hJ hs hB hNQ
          go_wp2
          go_loopw [6] (fun i wx => ∃ k : Nat, k ≤ 136 ∧ i = .int .i64 k ∧ wx.heap[W1.heap.size]? = some (.cells (wA 25 (xorB F (absN st0 Rb j) k)) 99) ∧ Below W1.heap.size W2 wx) (fun i _ => 136 - (intOf i).toNat)
          case atStart => exact ⟨0, by omega, rfl, HSt.out, HBx.out⟩
          case round =>
            obtain ⟨k, hk, rfl, h0, hK⟩ := hrel
            by_cases hlk : k < 136
            · obtain ⟨Q, hQ⟩ : ∃ Q, k / 8 = Q := ⟨_, rfl⟩
              obtain ⟨S, hS⟩ : ∃ S, k % 8 = S := ⟨_, rfl⟩
              obtain ⟨N, hN⟩ : ∃ N, 8 * S = N := ⟨_, rfl⟩
              obtain ⟨P, hP⟩ : ∃ P, J + k = P := ⟨_, rfl⟩
              have hq : (k : Int).tdiv 8 = (Q : Int) := by rw [← hQ]; rfl
              have hr : (k : Int).tmod 8 = (S : Int) := by rw [← hS]; rfl
              have hqw : IntKind.i64.wrap (Q : Int) = (Q : Int) := by rw [IntKind.wrap_i64]; omega
              have hrw : IntKind.i64.wrap (S : Int) = (S : Int) := by rw [IntKind.wrap_i64]; omega
              have hn8 : IntKind.i64.wrap (8 * (S : Int)) = (N : Int) := by rw [IntKind.wrap_i64]; omega
              have hpw : IntKind.i64.wrap ((J : Int) + (k : Int)) = (P : Int) := by rw [IntKind.wrap_i64]; omega
              have huw : IntKind.u64.wrap (N : Int) = (N : Int) := by rw [IntKind.wrap_u64]; omega
              have hPi : (P : Int) < (n : Int) := by omega
              have hQl : Q < 25 := by omega
              have hQi : (Q : Int) < 25 := by omega
              have hNl : N < 64 := by omega
              have hNi : (N : Int) < 64 := by omega
              have hcell := HOB.out.cell (i := P) (by rw [HRl.out]; omega)
              rw [show Rb.getD P 0 = F k by rw [HF.out, ← hP]; exact (getD_drop Rb J k).symm, ← hK.cell (p := ⟨g, P, none⟩) hgl] at hcell
              have hw : wr.cell? ⟨W1.heap.size, Q, none⟩ = some (vW (xorB F (absN st0 Rb j) k Q)) := by rw [cell_of h0]; exact wA_at _ hQl
              have hf := free_of h0 Q
              have hb := byte_word (F k)
              obtain ⟨X, hX⟩ : ∃ X : W64, BitVec.ofNat 64 (F k).toNat = X := ⟨_, rfl⟩
              rw [hX] at hb
              have hsh := bshl X N
              obtain ⟨Y, hY⟩ : ∃ Y, X <<< N = Y := ⟨_, rfl⟩
              rw [hY] at hsh
              have hx := bxor (xorB F (absN st0 Rb j) k Q) Y
              obtain ⟨V, hV⟩ : ∃ V, xorB F (absN st0 Rb j) k Q ^^^ Y = V := ⟨_, rfl⟩
              rw [hV] at hx
              have hvb : vB (F k) = .int .u8 (X.toNat : Int) := by unfold vB; rw [← hb]
              rw [hvb] at hcell
              have hXb : (X.toNat : Int) < 256 := by have := (F k).toNat_lt; rw [hb]; omega
              have hXw : IntKind.u64.wrap (X.toNat : Int) = (X.toNat : Int) := by rw [IntKind.wrap_u64]; omega
              have hstep : upd (xorB F (absN st0 Rb j) k) Q V = xorB F (absN st0 Rb j) (k + 1) := by rw [xorB_step, hQ, hS, hN, hX, hY, hV]
              have HST := Lib.hid hstep
              have H0 := Lib.hid h0
              have HK := Lib.hid hK
              clear hstep h0 hK hvb hV hY hX hb hQ hS hN hP
              go_wp2
              go_still_tail 20, (by kernel_rfl)
              change wpList _ _ _ _ _ wr.drew
              go_wp2
              go_roundw
              case rel =>
                refine ⟨k + 1, by omega, by go_num, ?_, ?_⟩
                · have h := set_row H0.out Q V
                  rw [HST.out] at h
                  exact h
                · have hd : Below W1.heap.size W2 wr.drew := ⟨HK.out.os, HK.out.tape, HK.out.output, HK.out.size, HK.out.block⟩
                  exact hd.setCell (p := ⟨W1.heap.size, Q, none⟩) (Nat.le_refl _) _
              case measure => simp [intOf]; omega
            · obtain rfl : k = 136 := by omega
              have H0 := Lib.hid h0
              have HK := Lib.hid hK
              have hstep : perm (xorB F (absN st0 Rb j) 136) = absN st0 Rb (j + 1) := by rw [HF.out, ← HJ.out]; rfl
              have HST := Lib.hid hstep
              clear h0 hK hstep
              go_wp2_with (first
                | (refine wpList_load_row rfl 99 _ rfl W1.heap.size rfl 99 _ (0, 0) _ H0.out rfl rfl (by rw [wA_size]; kernel_rfl) ?_)
                | (go_at_call 96; refine (PermuteR_any _ _).mono ?_; rintro e w4 ⟨rfl, hb4⟩; have Hb4 := Lib.hid hb4; clear hb4)
                | (refine wpList_store_new rfl 99 _ _ rfl W1.heap.size rfl _ rfl 99 _ (below_heap Hb4.out (lt_of H0.out) H0.out) (by rw [wA_size]; kernel_rfl) (by rw [wA_size, wA_size]) (wA_one _ _) ?_
                   intro w5 h5 hk5
                   have hB5 := (HK.out.trans (Hb4.out.mono (Nat.le_of_lt (lt_of H0.out)))).trans (hk5.below (by have := lt_of H0.out; have := Hb4.out.size; omega) (fun k hk e => by have : k = W1.heap.size := e; omega))
                   rw [HST.out] at h5
                   have H5 := Lib.hid h5
                   have HB5 := Lib.hid hB5
                   clear h5 hB5 hk5))
              go_roundw
              case rel =>
                first
                  | exact ⟨j + 1, by omega, by have := HJ.out; simp; omega, H5.out, HB5.out⟩
                  | ((repeat apply Exists.intro); exact ⟨⟨j + 1, by omega, by have := HJ.out; simp; omega, H5.out, HB5.out⟩, rfl⟩)
              case measure => simp [intOf]; omega
        · obtain rfl : j = q := by omega
          have hJn : n = J := by omega
          clear hF hJ hs hB hNQ
          go_wp2_with (first
            | (at_make
               go_loud (
               refine wpList_make_full _ rfl _ _ 98 rfl (wr.heap.size) 5 i0 (.int .u8 0) 1 Tryd.underlying98 Hi.out Hz0.out Hz1.out _ _ _ _ 32 rfl rfl rfl rfl (by rw [Hz2.out]; omega) (by decide) (Nat.le_refl _) ?_
               intro w7 hown7 hgrow7
               have hk7 : Below wr.heap.size wr w7 := (Below.refl _ _).grown hgrow7 (Nat.le_refl _) (by simp)
               have hg7 := own_full hown7
               rw [show (madeCells (Value.int IntKind.u8 0).cells (32 * 1)).toList = vBs (List.replicate 32 0) from vBs_zero 32, ← outK_zero (absN st0 Rb j)] at hg7
               have hz7 := lt_of HSt.out
               have HG7 := Lib.hid hg7
               have HS7 := Lib.hid (below_heap hk7 (lt_of HSt.out) HSt.out)
               have HK7 := Lib.hid (HBx.out.trans (hk7.mono (Nat.le_of_lt hz7)))
               clear hown7 hgrow7 hk7 hg7)))
          obtain ⟨w6, rfl⟩ : ∃ w6, w6 = wr := ⟨_, rfl⟩
          obtain ⟨st, hst⟩ : ∃ st, absN st0 Rb j = st := ⟨_, rfl⟩
          rw [hst] at HG7 HS7 HS
          clear hst
          go_loopw [8] (fun i wx => ∃ k : Nat, k ≤ 32 ∧ i = .int .i64 k ∧ wx.heap[w6.heap.size]? = some (.cells (vBs (outK st k)).toArray 5) ∧ wx.heap[W1.heap.size]? = some (.cells (wA 25 st) 99) ∧ Below W1.heap.size W2 wx) (fun i _ => 32 - (intOf i).toNat)
          case atStart => exact ⟨0, by omega, rfl, HG7.out, HS7.out, HK7.out⟩
          case round =>
            obtain ⟨k, hk, rfl, hg, hS, hB⟩ := hrel
            by_cases hlt : k < 32
            · obtain ⟨Q, hQ⟩ : ∃ Q, k / 8 = Q := ⟨_, rfl⟩
              obtain ⟨S, hSS⟩ : ∃ S, k % 8 = S := ⟨_, rfl⟩
              obtain ⟨N, hN⟩ : ∃ N, 8 * S = N := ⟨_, rfl⟩
              have hq' : (k : Int) / 8 = (Q : Int) := by rw [← hQ]; rfl
              have hr' : (k : Int) % 8 = (S : Int) := by rw [← hSS]; rfl
              have hn8 : 8 * (S : Int) = (N : Int) := by omega
              have hQi : (Q : Int) < 25 := by omega
              have hNi : (N : Int) < 64 := by omega
              have hw : wr.cell? ⟨W1.heap.size, Q, none⟩ = some (vW (st Q)) := by rw [cell_of hS]; exact wA_at _ (by omega)
              have hb := byteAt_val st k
              rw [hQ, hSS, hN] at hb
              have hsh := bshr (st Q) N
              obtain ⟨V, hV⟩ : ∃ V, (st Q) >>> N = V := ⟨_, rfl⟩
              rw [hV] at hb hsh
              have HBV := Lib.hid hb
              have HSx := Lib.hid hS
              have HG := Lib.hid hg
              have HBy := Lib.hid hB
              clear hg hS hB hQ hSS hN hV hb
              go_wp2_with (first
                | (refine wpList_store_one rfl 5 _ _ rfl w6.heap.size k rfl (vB (byteAt st k)) (congrArg (Value.int .u8) HBV.out) rfl rfl _ _ HG.out (by simp [vBs, outK_len]; omega) (by kernel_rfl) ?_
                   intro w8 hg8 hk8
                   rw [vBs_set, outK_step _ _ hlt] at hg8
                   have HG8 := Lib.hid hg8
                   have HS8 := Lib.hid ((hk8.block _ (lt_of HSx.out) (fun e => by have : W1.heap.size = w6.heap.size := e; omega)).trans HSx.out)
                   have HB8 := Lib.hid (HBy.out.trans (hk8.below (Nat.le_of_lt (lt_of HSx.out)) (fun k hk e => by have : k = w6.heap.size := e; omega)))
                   clear hg8 hk8))
              go_roundw
              case rel => exact ⟨k + 1, by omega, by go_num, HG8.out, HS8.out, HB8.out⟩
              case measure => simp [intOf]; omega
            · obtain rfl : k = 32 := by omega
              rw [outK_end] at hg
              have hlen : (outB st).length = 32 := by simp [outB]
              have hcv := block_string (P := Tryd.prog) (src := 98) (dst := 9) (cap := 32) (w := wr) Tryd.underlying98 Tryd.underlying5 Tryd.underlying9 hg
              rw [hlen] at hcv
              have HBz := Lib.hid hB
              clear hg hS hB hlen
              go_wp2
              go_ret
              refine ⟨congrArg (fun x => Ending.returned (.string (B x))) HS.out, ?_⟩
              exact HB2.out.trans (HBz.out.mono (by have := HB.out.size; omega))

end Go.Proofs.YtfklmjcjjdliiaaDoor
