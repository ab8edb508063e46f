/- Parts of the proofs: ShaRef, Shelf, WkEnc, WkBuilder. No condition beyond those at each theorem. -/
import Derived.Ground.Names2Prog
import Derived.Shelf.LaysM
import Derived.Shelf.Slices.Clone
import Derived.Shelf.Slices.Empties2
import Derived.Shelf.Slices.Equal
import Derived.Shelf.Slices.In.SortNone
import Derived.Shelf.Slices.SearchI
import Derived.Shelf.Small.Bits
import Derived.Shelf.Small.Wraps
import Derived.Shelf.Sort.Plain
import Derived.Shelf.Strconv.Clone
import Derived.Shelf.Strconv.Itoa0
import Derived.Shelf.Strconv.Itoa1
import Derived.Shelf.Strconv.Itoa2
import Derived.Shelf.Strconv.Itoa3
import Derived.Shelf.Strings.Builder1
import Derived.Shelf.Strings.BuilderCap
import Derived.Shelf.Strings.BuilderF
import Derived.Shelf.Strings.BuilderK
import Derived.Test.YtknpbekoenbphaaGreatDoorPk05
set_option linter.unusedVariables false
set_option linter.unusedSimpArgs false
set_option maxHeartbeats 16000000
set_option maxRecDepth 100000
namespace Go.Proofs.YtknpbekoenbphaaGreatDoor
open Go Go.RowKit Licit Licit.Sha
theorem Tryz.infoByteR : (Tryz.prog.info? 5).map (fun i => (i.zero, i.size, i.bytes)) = some (some (.int .u8 0), 1, 1) := by kernel_rfl
def kvv : Value → Nat | .slice _ n _ => n | _ => 0
theorem k3a (x y : UInt8) : bits .or .u8 (x.toNat : Int) (y.toNat : Int) = ((x ||| y).toNat : Int) := by
 rw [u8_or_nat _ _ x.toNat_lt y.toNat_lt, UInt8.toNat_or]
theorem kp3 (l : Bs) (w : World) (hl : l.length ≤ 1000000000000) :
 Calls Tryz.prog 111 #[.string (B l)] w fun e w' => e = .returned (.string (B (sha l))) ∧ Below w.heap.size w w' := by
 obtain ⟨R, hR⟩ : ∃ R, sha l = R := ⟨_, rfl⟩
 rw [hR]
 have HR := hdd hR
 clear hR
 obtain ⟨i0, hi, hz0, hz1, hz2⟩ := info_parts Tryz.infoByteR
 have Hi := hdd hi
 have Hz0 := hdd hz0
 have Hz1 := hdd hz1
 have Hz2 := hdd hz2
 clear hi hz0 hz1 hz2
 go_enter Tryz.func111, Tryz.ntmps111
 go_wp2_with (first
  | (refine kn8 rfl 9 208 5 _ rfl (B l) rfl Tryz.underlying9 Tryz.underlying208 Tryz.underlying5 (by unfold maxLen; rw [kbt]; omega) ?_
     intro v1 w1 ho1 hb1
     have ho1 : kjw w1 w.heap.size 5 v1 l := ho1
     obtain ⟨g1, c1, rfl, hg1, hg1'⟩ := ho1.form
     have HO1 := hdd ho1
     have HB1 := hdd hb1
     clear ho1 hb1)
  | (at_builtin
     refine kgi _ rfl _ _ 208 rfl w.heap.size 5 i0 (.int .u8 0) 1 Tryz.underlying208 Hi.out Hz0.out Hz1.out Hz2.out rfl (.slice (some ⟨g1, 0, none⟩) l.length c1) (vBs l) rfl (kjb.below HO1.out ((Below.refl _ _).alloc (Nat.le_refl _) _)) ⟨w1.heap.size, 0, none⟩ 1 1 (vBs [6]) rfl rfl (by decide) (kbm (kak _ _)) (kkx _) (by rw [vBs_len]; unfold maxLen; omega) (by rw [vBs_len]; omega) (by have := HB1.out.size; simp; omega) ?_
     intro v2 w2 ho2 hb2
     have hb2' : Below w.heap.size w w2 := (HB1.out.alloc (HB1.out.size) _).trans hb2
     have ho2' : kjw w2 w.heap.size 5 v2 (l ++ [6]) := kjw.append ho2
     obtain ⟨g2, c2, rfl, hg2, hg2'⟩ := ho2'.formN (n := l.length + 1) (by simp)
     have HO2 := hdd ho2'
     have HB2 := hdd hb2'
     clear ho2' hb2' ho2 hb2))
 go_loopw [3] (fun v wr => ∃ k g c, k ≤ 135 - l.length % 136 ∧ v = .slice (some ⟨g, 0, none⟩) (l.length + 1 + k) c ∧ kjw wr w.heap.size 5 v ((l ++ [6]) ++ List.replicate k 0) ∧ Below w.heap.size w wr) (fun v _ => l.length + 136 - kvv v)
 case atStart =>
  refine ⟨0, g2, c2, by omega, rfl, ?_, HB2.out⟩
  rw [List.replicate_zero, List.append_nil]; exact HO2.out
 case round =>
  obtain ⟨W1, rfl⟩ : ∃ W1, W1 = wr := ⟨_, rfl⟩
  obtain ⟨k, g, c, hk, rfl, hO, hB⟩ := hrel
  have hlen : ((l ++ [6]) ++ List.replicate k 0).length = l.length + 1 + k := by simp; omega
  by_cases hlt : k < 135 - l.length % 136
  · have hmod : (((l.length + 1 + k : Nat) : Int) % 136 != 0) = true := by simp; omega
    have HO := hdd hO
    have HB := hdd hB
    have HL := hdd hlen
    clear hO hB hlen
    go_wp2_with (first
     | (at_builtin
        go_loud (
        refine kgi _ rfl _ _ 208 rfl w.heap.size 5 i0 (.int .u8 0) 1 Tryz.underlying208 Hi.out Hz0.out Hz1.out Hz2.out rfl (.slice (some ⟨g, 0, none⟩) (l.length + 1 + k) c) (vBs ((l ++ [6]) ++ List.replicate k 0)) rfl (kjb.below HO.out ((Below.refl _ _).alloc (Nat.le_refl _) _)) ⟨W1.heap.size, 0, none⟩ 1 1 (vBs [0]) rfl rfl (by decide) (kbm (kak _ _)) (kkx _) (by rw [vBs_len, HL.out]; unfold maxLen; omega) (by rw [vBs_len, HL.out]; omega) (by have := HB.out.size; simp; omega) ?_
        intro v2 w2 ho2 hb2
        have hb2' : Below w.heap.size w w2 := (HB.out.alloc (HB.out.size) _).trans hb2
        have ho2' : kjw w2 w.heap.size 5 v2 ((l ++ [6]) ++ List.replicate k 0 ++ [0]) := kjw.append ho2
        rw [List.append_assoc (l ++ [6]), ← List.replicate_succ'] at ho2'
        obtain ⟨g2, c2, rfl, hg2, hg2'⟩ := ho2'.formN (n := l.length + 1 + (k + 1)) (by simp; omega)
        have HO2 := hdd ho2'
        have HB2 := hdd hb2'
        clear ho2' hb2' ho2 hb2)))
    go_roundw
    case rel => exact ⟨k + 1, g2, c2, by omega, rfl, HO2.out, HB2.out⟩
    case measure => simp [kvv]; omega
  · have hmod : (((l.length + 1 + k : Nat) : Int) % 136 != 0) = false := by simp; omega
    have hpl := kgl l
    obtain ⟨n, hn⟩ : ∃ n, l.length + 1 + k = n := ⟨_, rfl⟩
    have hk2 : k = 135 - l.length % 136 := by omega
    rw [hk2] at hO
    have hO : kjw W1 w.heap.size 5 (.slice (some ⟨g, 0, none⟩) n c) (kdb l) := by rw [← hn, hk2]; exact hO
    have hnq : n = 136 * (l.length / 136 + 1) := by omega
    rw [← hnq] at hpl
    obtain ⟨g', c', hgc, hg, hgl⟩ := hO.form
    obtain ⟨rfl, rfl⟩ : g = g' ∧ c = c' := by simp only [Value.slice.injEq, Option.some.injEq, Addr.mk.injEq] at hgc; exact ⟨hgc.1.1, hgc.2.2⟩
    have hgx : W1.cell? ⟨g, n - 1, none⟩ = some (.int .u8 (((kdb l).getD (n - 1) 0).toNat : Int)) := hO.cell (by omega)
    have hfx := hO.free (i := n - 1) (by omega)
    have hx := k3a ((kdb l).getD (n - 1) 0) 128
    have hx : bits .or .u8 (((kdb l).getD (n - 1) 0).toNat : Int) 128 = (((kdb l).getD (n - 1) 0 ||| 128).toNat : Int) := hx
    obtain ⟨Rb, hRb⟩ : ∃ Rb, kvm l = Rb := ⟨_, rfl⟩
    obtain ⟨y, hy⟩ : ∃ y, (kdb l).getD (n - 1) 0 ||| 128 = y := ⟨_, rfl⟩
    have hOB := hO.set (i := n - 1) (by omega) y
    have hRb2 : (kdb l).set (n - 1) y = Rb := by rw [← hRb, ← hy]; unfold kvm; rw [hpl]
    have hRl : Rb.length = n := by rw [← hRb, kwe, hnq]
    have hsha : kmz (kgx st0 Rb (l.length / 136 + 1)) = R := by rw [← hRb, kzu, HR.out]
    rw [hRb2] at hOB
    rw [hy] at hx
    obtain ⟨q, hq⟩ : ∃ q, l.length / 136 + 1 = q := ⟨_, rfl⟩
    rw [hq] at hsha hnq
    obtain ⟨X, hX⟩ : ∃ X, (kdb l).getD (n - 1) 0 = X := ⟨_, rfl⟩
    rw [hX] at hgx hx
    have hn1 : (n : Int) - 1 = ((n - 1 : Nat) : Int) := by omega
    have hnl : n ≤ 2000000000000 := by omega
    have hn0 : 0 < n := by omega
    have HOB := hdd hOB
    have HB := hdd hB
    have HS := hdd hsha
    have HRl := hdd hRl
    have HNQ := hdd hnq
    rw [hn] at hmod
    rw [hn]
    clear hO hB hlen hpl hk2 hgc hRb hy hOB hRb2 hRl hsha hnq hq hX hn
    go_wp2
    obtain ⟨W2, hW2⟩ : ∃ W2, W2 = W1.setCell ⟨g, n - 1, none⟩ (.int .u8 (y.toNat : Int)) := ⟨_, rfl⟩
    have hz2 : W2.heap.size = W1.heap.size := by rw [hW2]; simp [World.setCell]
    rw [← hW2]
    have hOB : kjw W2 w.heap.size 5 (.slice (some ⟨g, 0, none⟩) n c) Rb := by rw [hW2]; exact HOB.out
    have hB2 : Below w.heap.size w W2 := by rw [hW2]; exact HB.out.setCell (p := ⟨g, n - 1, none⟩) hg _
    have HOB := hdd hOB
    have HB2 := hdd hB2
    clear hOB hB2 hW2
    go_loopw [5] (fun i wx => ∃ j : Nat, j ≤ q ∧ i = .int .i64 ((136 * j : Nat) : Int) ∧ wx.heap[W1.heap.size]? = some (.cells (wA 25 (kgx st0 Rb j)) 210) ∧ Below W1.heap.size W2 wx) (fun i _ => n - (intOf i).toNat)
    case atStart => exact ⟨0, by omega, rfl, kaj hz2.symm rfl, (Below.refl _ _).alloc (Nat.le_of_eq hz2.symm) _⟩
    case round =>
     obtain ⟨j, hj, rfl, hs, hB⟩ := hrel
     obtain ⟨J, hJ⟩ : ∃ J, 136 * j = J := ⟨_, rfl⟩
     rw [hJ]
     obtain ⟨F, hF⟩ : ∃ F : Nat → UInt8, F = fun i => (Rb.drop J).getD i 0 := ⟨_, rfl⟩
     have HF := hdd hF
     have HJ := hdd hJ
     have HSt := hdd hs
     have HBx := hdd hB
     have hNQ := HNQ.out
     by_cases hlt : j < q
     · have hJn : J < n := by omega
       have hJm : J + 136 ≤ n := by omega
       clear hF hJ hs hB hNQ
       go_wp2
       go_loopw [6] (fun i wx => ∃ k : Nat, k ≤ 136 ∧ i = .int .i64 k ∧ wx.heap[W1.heap.size]? = some (.cells (wA 25 (kin F (kgx st0 Rb j) k)) 210) ∧ Below W1.heap.size W2 wx) (fun i _ => 136 - (intOf i).toNat)
       case atStart => exact ⟨0, by omega, rfl, HSt.out, HBx.out⟩
       case round =>
        obtain ⟨k, hk, rfl, h0, hK⟩ := hrel
        by_cases hlk : k < 136
        · obtain ⟨Q, hQ⟩ : ∃ Q, k / 8 = Q := ⟨_, rfl⟩
          obtain ⟨S, hS⟩ : ∃ S, k % 8 = S := ⟨_, rfl⟩
          obtain ⟨N, hN⟩ : ∃ N, 8 * S = N := ⟨_, rfl⟩
          obtain ⟨P, hP⟩ : ∃ P, J + k = P := ⟨_, rfl⟩
          have hq : (k : Int).tdiv 8 = (Q : Int) := by rw [← hQ]; rfl
          have hr : (k : Int).tmod 8 = (S : Int) := by rw [← hS]; rfl
          have hqw : IntKind.i64.wrap (Q : Int) = (Q : Int) := by rw [IntKind.wrap_i64]; omega
          have hrw : IntKind.i64.wrap (S : Int) = (S : Int) := by rw [IntKind.wrap_i64]; omega
          have hn8 : IntKind.i64.wrap (8 * (S : Int)) = (N : Int) := by rw [IntKind.wrap_i64]; omega
          have hpw : IntKind.i64.wrap ((J : Int) + (k : Int)) = (P : Int) := by rw [IntKind.wrap_i64]; omega
          have huw : IntKind.u64.wrap (N : Int) = (N : Int) := by rw [IntKind.wrap_u64]; omega
          have hPi : (P : Int) < (n : Int) := by omega
          have hQl : Q < 25 := by omega
          have hQi : (Q : Int) < 25 := by omega
          have hNl : N < 64 := by omega
          have hNi : (N : Int) < 64 := by omega
          have hcell := HOB.out.cell (i := P) (by rw [HRl.out]; omega)
          rw [show Rb.getD P 0 = F k by rw [HF.out, ← hP]; exact (ke7 Rb J k).symm, ← hK.cell (p := ⟨g, P, none⟩) hgl] at hcell
          have hw : wr.cell? ⟨W1.heap.size, Q, none⟩ = some (vW (kin F (kgx st0 Rb j) k Q)) := by rw [kab h0]; exact kcv _ hQl
          have hf := kai h0 Q
          have hb := km0 (F k)
          obtain ⟨X, hX⟩ : ∃ X : W64, BitVec.ofNat 64 (F k).toNat = X := ⟨_, rfl⟩
          rw [hX] at hb
          have hsh := k2v X N
          obtain ⟨Y, hY⟩ : ∃ Y, X <<< N = Y := ⟨_, rfl⟩
          rw [hY] at hsh
          have hx := kog (kin F (kgx st0 Rb j) k Q) Y
          obtain ⟨V, hV⟩ : ∃ V, kin F (kgx st0 Rb j) k Q ^^^ Y = V := ⟨_, rfl⟩
          rw [hV] at hx
          have hvb : vB (F k) = .int .u8 (X.toNat : Int) := by unfold vB; rw [← hb]
          rw [hvb] at hcell
          have hXb : (X.toNat : Int) < 256 := by have := (F k).toNat_lt; rw [hb]; omega
          have hXw : IntKind.u64.wrap (X.toNat : Int) = (X.toNat : Int) := by rw [IntKind.wrap_u64]; omega
          have hstep : upd (kin F (kgx st0 Rb j) k) Q V = kin F (kgx st0 Rb j) (k + 1) := by rw [km1, hQ, hS, hN, hX, hY, hV]
          have HST := hdd hstep
          have H0 := hdd h0
          have HK := hdd hK
          clear hstep h0 hK hvb hV hY hX hb hQ hS hN hP
          go_wp2
          go_still_tail 20, (by kernel_rfl)
          change wpList _ _ _ _ _ wr.drew
          go_wp2
          go_roundw
          case rel =>
           refine ⟨k + 1, by omega, by go_num, ?_, ?_⟩
           · have h := kfo H0.out Q V
             rw [HST.out] at h
             exact h
           · have hd : Below W1.heap.size W2 wr.drew := ⟨HK.out.os, HK.out.tape, HK.out.output, HK.out.size, HK.out.block⟩
             exact hd.setCell (p := ⟨W1.heap.size, Q, none⟩) (Nat.le_refl _) _
          case measure => simp [intOf]; omega
        · obtain rfl : k = 136 := by omega
          have H0 := hdd h0
          have HK := hdd hK
          have hstep : kzf (kin F (kgx st0 Rb j) 136) = kgx st0 Rb (j + 1) := by rw [HF.out, ← HJ.out]; rfl
          have HST := hdd hstep
          clear h0 hK hstep
          go_wp2_with (first
           | (refine wpList_load_row rfl 210 _ rfl W1.heap.size rfl 210 _ (0, 0) _ H0.out rfl rfl (by rw [kaw]; kernel_rfl) ?_)
           | (go_at_call 171; refine (kns _ _).mono ?_; rintro e w4 ⟨rfl, hb4⟩; have Hb4 := hdd hb4; clear hb4)
           | (refine kaa rfl 210 _ _ rfl W1.heap.size rfl _ rfl 210 _ (kad Hb4.out (kac H0.out) H0.out) (by rw [kaw]; kernel_rfl) (by rw [kaw, kaw]) (ke3 _ _) ?_
              intro w5 h5 hk5
              have hB5 := (HK.out.trans (Hb4.out.mono (Nat.le_of_lt (kac H0.out)))).trans (hk5.below (by have := kac H0.out; have := Hb4.out.size; omega) (fun k hk e => by have : k = W1.heap.size := e; omega))
              rw [HST.out] at h5
              have H5 := hdd h5
              have HB5 := hdd hB5
              clear h5 hB5 hk5))
          go_roundw
          case rel =>
           first
            | exact ⟨j + 1, by omega, by have := HJ.out; simp; omega, H5.out, HB5.out⟩
            | ((repeat apply Exists.intro); exact ⟨⟨j + 1, by omega, by have := HJ.out; simp; omega, H5.out, HB5.out⟩, rfl⟩)
          case measure => simp [intOf]; omega
     · obtain rfl : j = q := by omega
       have hJn : n = J := by omega
       clear hF hJ hs hB hNQ
       go_wp2_with (first
        | (at_make
           go_loud (
           refine wpList_make_full _ rfl _ _ 208 rfl (wr.heap.size) 5 i0 (.int .u8 0) 1 Tryz.underlying208 Hi.out Hz0.out Hz1.out _ _ _ _ 32 rfl rfl rfl rfl (by rw [Hz2.out]; omega) (by decide) (Nat.le_refl _) ?_
           intro w7 hown7 hgrow7
           have hk7 : Below wr.heap.size wr w7 := (Below.refl _ _).grown hgrow7 (Nat.le_refl _) (by simp)
           have hg7 := own_full hown7
           rw [show (madeCells (Value.int IntKind.u8 0).cells (32 * 1)).toList = vBs (List.replicate 32 0) from kmg 32, ← km2 (kgx st0 Rb j)] at hg7
           have hz7 := kac HSt.out
           have HG7 := hdd hg7
           have HS7 := bhh hk7 HSt
           have HK7 := hdd (HBx.out.trans (hk7.mono (Nat.le_of_lt hz7)))
           clear hown7 hgrow7 hk7 hg7)))
       obtain ⟨w6, rfl⟩ : ∃ w6, w6 = wr := ⟨_, rfl⟩
       obtain ⟨st, hst⟩ : ∃ st, kgx st0 Rb j = st := ⟨_, rfl⟩
       rw [hst] at HG7 HS7 HS
       clear hst
       go_loopw [8] (fun i wx => ∃ k : Nat, k ≤ 32 ∧ i = .int .i64 k ∧ wx.heap[w6.heap.size]? = some (.cells (vBs (kr7 st k)).toArray 5) ∧ wx.heap[W1.heap.size]? = some (.cells (wA 25 st) 210) ∧ Below W1.heap.size W2 wx) (fun i _ => 32 - (intOf i).toNat)
       case atStart => exact ⟨0, by omega, rfl, HG7.out, HS7.out, HK7.out⟩
       case round =>
        obtain ⟨k, hk, rfl, hg, hS, hB⟩ := hrel
        by_cases hlt : k < 32
        · obtain ⟨Q, hQ⟩ : ∃ Q, k / 8 = Q := ⟨_, rfl⟩
          obtain ⟨S, hSS⟩ : ∃ S, k % 8 = S := ⟨_, rfl⟩
          obtain ⟨N, hN⟩ : ∃ N, 8 * S = N := ⟨_, rfl⟩
          have hq' : (k : Int) / 8 = (Q : Int) := by rw [← hQ]; rfl
          have hr' : (k : Int) % 8 = (S : Int) := by rw [← hSS]; rfl
          have hn8 : 8 * (S : Int) = (N : Int) := by omega
          have hQi : (Q : Int) < 25 := by omega
          have hNi : (N : Int) < 64 := by omega
          have hw : wr.cell? ⟨W1.heap.size, Q, none⟩ = some (vW (st Q)) := by rw [kab hS]; exact kcv _ (by omega)
          have hb := klj st k
          rw [hQ, hSS, hN] at hb
          have hsh := k2f (st Q) N
          obtain ⟨V, hV⟩ : ∃ V, (st Q) >>> N = V := ⟨_, rfl⟩
          rw [hV] at hb hsh
          have HBV := hdd hb
          have HSx := hdd hS
          have HG := hdd hg
          have HBy := hdd hB
          clear hg hS hB hQ hSS hN hV hb
          go_wp2_with (first
           | (refine kae rfl 5 _ _ rfl w6.heap.size k rfl (vB (kiz st k)) (congrArg (Value.int .u8) HBV.out) rfl rfl _ _ HG.out (by simp [vBs, kqt]; omega) (by kernel_rfl) ?_
              intro w8 hg8 hk8
              rw [kmf, knu _ _ hlt] at hg8
              have HG8 := hdd hg8
              have HS8 := hdd ((hk8.block _ (kac HSx.out) (fun e => by have : W1.heap.size = w6.heap.size := e; omega)).trans HSx.out)
              have HB8 := hdd (HBy.out.trans (hk8.below (Nat.le_of_lt (kac HSx.out)) (fun k hk e => by have : k = w6.heap.size := e; omega)))
              clear hg8 hk8))
          go_roundw
          case rel => exact ⟨k + 1, by omega, by go_num, HG8.out, HS8.out, HB8.out⟩
          case measure => simp [intOf]; omega
        · obtain rfl : k = 32 := by omega
          rw [kpw] at hg
          have hlen : (kmz st).length = 32 := by simp [kmz]
          have hcv := ki1 (P := Tryz.prog) (src := 208) (dst := 9) (cap := 32) (w := wr) Tryz.underlying208 Tryz.underlying5 Tryz.underlying9 hg
          rw [hlen] at hcv
          have HBz := hdd hB
          clear hg hS hB hlen
          go_wp2
          go_ret
          refine ⟨congrArg (fun x => Ending.returned (.string (B x))) HS.out, ?_⟩
          exact HB2.out.trans (HBz.out.mono (by have := HB.out.size; omega))
end Go.Proofs.YtknpbekoenbphaaGreatDoor
namespace Go.Proofs
open Go.Shelf
def Tryz.lays169_ren : Go.Shelf.Ren := ⟨fun | 169 => 232 | n => n, fun | 70 => 259 | 9 => 9 | 0 => 0 | 72 => 261 | 37 => 208 | 127 => 266 | 3 => 3 | 5 => 5 | n => n, fun | n => n⟩
theorem Tryz.lays169 : Go.Proofs.Lays.n169 Tryz.prog Tryz.lays169_ren := {
 mixed := by kernel_rfl
 f169 := Tryz.func232.trans (congrArg some (by kernel_rfl))
 t0 := Tryz.underlying0
 a0 := Tryz.isAgg0
 z0 := Tryz.sizeOf0
 v0 := Tryz.zeroValue0
 t3 := Tryz.underlying3
 a3 := Tryz.isAgg3
 z3 := Tryz.sizeOf3
 v3 := Tryz.zeroValue3
 t9 := Tryz.underlying9
 a9 := Tryz.isAgg9
 z9 := Tryz.sizeOf9
 v9 := Tryz.zeroValue9
 t37 := Tryz.underlying208
 a37 := Tryz.isAgg208
 z37 := Tryz.sizeOf208
 v37 := Tryz.zeroValue208
 t70 := Tryz.underlying259
 a70 := Tryz.isAgg259
 z70 := Tryz.sizeOf259
 v70 := Tryz.zeroValue259
 t72 := Tryz.underlying261
 a72 := Tryz.isAgg261
 z72 := Tryz.sizeOf261
 v72 := Tryz.zeroValue261
 t127 := Tryz.underlying266
 a127 := Tryz.isAgg266
 z127 := Tryz.sizeOf266
 v127 := Tryz.zeroValue266 }
theorem Tryz.Builder_Extra_169 : Builder.Extra Tryz.prog Tryz.lays169_ren := {
 sizeBuilder := by kernel_rfl
 liesBuilder := by kernel_rfl
 t5 := Tryz.underlying5
 a5 := Tryz.isAgg5
 z5 := Tryz.sizeOf5
 v5 := Tryz.zeroValue5
 infoByte := by kernel_rfl
 cellsByte := by kernel_rfl
 sizeByte := by kernel_rfl
 neB5 := by decide }
def Tryz.lays122_ren : Go.Shelf.Ren := ⟨fun | 122 => 135 | 215 => 192 | n => n, fun | 3 => 3 | 4 => 4 | n => n, fun | n => n⟩
theorem Tryz.lays122 : Go.Proofs.Lays.n122 Tryz.prog Tryz.lays122_ren := {
 mixed := by kernel_rfl
 f122 := Tryz.func135.trans (congrArg some (by kernel_rfl))
 f215 := Tryz.func192.trans (congrArg some (by kernel_rfl))
 t3 := Tryz.underlying3
 a3 := Tryz.isAgg3
 z3 := Tryz.sizeOf3
 v3 := Tryz.zeroValue3
 t4 := Tryz.underlying4
 a4 := Tryz.isAgg4
 z4 := Tryz.sizeOf4
 v4 := Tryz.zeroValue4 }
open Go.RowKit in
theorem Tryz.cmp_Compare_int (x y : Int) (w : World) :
 Calls Tryz.prog 135 #[.int .i64 x, .int .i64 y] w fun e w' => e = .returned (.int .i64 (Lib.compareInt x y)) ∧ w' = w := Any.cmp_Compare_int Tryz.lays122 x y w
open Go.RowKit in
theorem Tryz.Builder_String_any_k (B b : Nat) (l : List UInt8) (w : World) (h : Lib.IsBuilderF 261 5 B b (Lib.byteCells l) w) (hBw : B ≤ w.heap.size) :
 Calls Tryz.prog 232 #[.pointer (some ⟨b, 0, none⟩)] w fun e w' => e = .returned (.string ⟨l.toArray⟩) ∧ (Lib.IsBuilderF 261 5 B b (Lib.byteCells l) w' ∧ Below B w w' ∧ Lib.OthersKept 5 (some b) w w') := Any.Builder_String_any_k Tryz.lays169 Tryz.Builder_Extra_169 B b l w h hBw
def Tryz.laysM171_ren : Go.Shelf.Ren := ⟨fun | 171 => 199 | 243 => 230 | 246 => 243 | 283 => 250 | 284 => 251 | 285 => 252 | 286 => 253 | 129 => 182 | 317 => 256 | 318 => 257 | 319 => 258 | 320 => 259 | 337 => 260 | 338 => 261 | n => n, fun | 3 => 3 | 9 => 9 | 2 => 2 | 4 => 4 | 171 => 285 | 0 => 0 | 53 => 209 | 37 => 208 | 5 => 5 | 173 => 287 | 212 => 293 | 51 => 222 | 20 => 20 | 213 => 294 | 46 => 131 | 232 => 295 | 233 => 296 | n => n, fun | 17 => 0 | 18 => 1 | 19 => 2 | n => n⟩
theorem Tryz.laysM171 : Go.Proofs.LaysM.n171 Tryz.prog Tryz.laysM171_ren := {
 mixed := by kernel_rfl
 f129 := Tryz.func182.trans (congrArg some (by kernel_rfl))
 f171 := Tryz.func199.trans (congrArg some (by kernel_rfl))
 f243 := Tryz.func230.trans (congrArg some (by kernel_rfl))
 f246 := Tryz.func243.trans (congrArg some (by kernel_rfl))
 f283 := Tryz.func250.trans (congrArg some (by kernel_rfl))
 f284 := Tryz.func251.trans (congrArg some (by kernel_rfl))
 f285 := Tryz.func252.trans (congrArg some (by kernel_rfl))
 f286 := Tryz.func253.trans (congrArg some (by kernel_rfl))
 f317 := Tryz.func256.trans (congrArg some (by kernel_rfl))
 f318 := Tryz.func257.trans (congrArg some (by kernel_rfl))
 f319 := Tryz.func258.trans (congrArg some (by kernel_rfl))
 f320 := Tryz.func259.trans (congrArg some (by kernel_rfl))
 f337 := Tryz.func260.trans (congrArg some (by kernel_rfl))
 f338 := Tryz.func261.trans (congrArg some (by kernel_rfl))
 t0 := Tryz.underlying0
 a0 := Tryz.isAgg0
 z0 := Tryz.sizeOf0
 v0 := Tryz.zeroValue0
 t2 := Tryz.underlying2
 a2 := Tryz.isAgg2
 z2 := Tryz.sizeOf2
 v2 := Tryz.zeroValue2
 t3 := Tryz.underlying3
 a3 := Tryz.isAgg3
 z3 := Tryz.sizeOf3
 v3 := Tryz.zeroValue3
 t4 := Tryz.underlying4
 a4 := Tryz.isAgg4
 z4 := Tryz.sizeOf4
 v4 := Tryz.zeroValue4
 t5 := Tryz.underlying5
 a5 := Tryz.isAgg5
 z5 := Tryz.sizeOf5
 v5 := Tryz.zeroValue5
 t9 := Tryz.underlying9
 a9 := Tryz.isAgg9
 z9 := Tryz.sizeOf9
 v9 := Tryz.zeroValue9
 t20 := Tryz.underlying20
 a20 := Tryz.isAgg20
 z20 := Tryz.sizeOf20
 v20 := Tryz.zeroValue20
 t37 := Tryz.underlying208
 a37 := Tryz.isAgg208
 z37 := Tryz.sizeOf208
 v37 := Tryz.zeroValue208
 t46 := Tryz.underlying131
 a46 := Tryz.isAgg131
 z46 := Tryz.sizeOf131
 v46 := Tryz.zeroValue131
 t51 := Tryz.underlying222
 a51 := Tryz.isAgg222
 z51 := Tryz.sizeOf222
 v51 := Tryz.zeroValue222
 t53 := Tryz.underlying209
 a53 := Tryz.isAgg209
 z53 := Tryz.sizeOf209
 v53 := Tryz.zeroValue209
 t171 := Tryz.underlying285
 a171 := Tryz.isAgg285
 z171 := Tryz.sizeOf285
 v171 := Tryz.zeroValue285
 t173 := Tryz.underlying287
 a173 := Tryz.isAgg287
 z173 := Tryz.sizeOf287
 v173 := Tryz.zeroValue287
 t212 := Tryz.underlying293
 a212 := Tryz.isAgg293
 z212 := Tryz.sizeOf293
 v212 := Tryz.zeroValue293
 t213 := Tryz.underlying294
 a213 := Tryz.isAgg294
 z213 := Tryz.sizeOf294
 t232 := Tryz.underlying295
 a232 := Tryz.isAgg295
 z232 := Tryz.sizeOf295
 v232 := Tryz.zeroValue295
 t233 := Tryz.underlying296
 a233 := Tryz.isAgg296
 z233 := Tryz.sizeOf296
 v233 := Tryz.zeroValue296
 g17 := by kernel_rfl
 g18 := by kernel_rfl
 g19 := by kernel_rfl
 i0 := by kernel_rfl
 i2 := by kernel_rfl
 i3 := by kernel_rfl
 i4 := by kernel_rfl
 i5 := by kernel_rfl
 i9 := by kernel_rfl
 i20 := by kernel_rfl
 i37 := by kernel_rfl
 i46 := by kernel_rfl
 i51 := by kernel_rfl
 i53 := by kernel_rfl
 i171 := by kernel_rfl
 i173 := by kernel_rfl
 i212 := by kernel_rfl
 i232 := by kernel_rfl
 i233 := by kernel_rfl
 m17 := by kernel_rfl
 m18 := by kernel_rfl
 m19 := by kernel_rfl }
open Go.RowKit Go.Sort Go.Lib in
theorem Tryz.strconv_Itoa (n : Int) (h0 : -9223372036854775808 ≤ n) (h1 : n ≤ 9223372036854775807) (w : World) (htab : Lib.TabIs Tryz.prog w "internal/strconv.uint64pow10" .u64 Lib.pow10Tab) :
 Calls Tryz.prog 199 #[.int .i64 n] w fun e w' => e = .returned (.string ⟨(Lib.itoa n).toArray⟩) ∧ ∃ k os, w' = grow (w.drewN k) os := Any.strconv_Itoa Tryz.laysM171 n h0 h1 w htab
def Tryz.lays190_ren : Go.Shelf.Ren := ⟨fun | 190 => 52 | 125 => 113 | 258 => 112 | 128 => 181 | 129 => 182 | 302 => 172 | 303 => 173 | 304 => 174 | 305 => 175 | 306 => 176 | 307 => 177 | 308 => 178 | 309 => 179 | 310 => 180 | 333 => 207 | 329 => 208 | 330 => 209 | 334 => 210 | 335 => 211 | 336 => 187 | 344 => 236 | n => n, fun | 31 => 39 | 9 => 9 | 3 => 3 | 46 => 131 | 0 => 0 | 51 => 222 | 53 => 209 | 4 => 4 | 183 => 214 | 182 => 213 | 131 => 219 | 5 => 5 | 218 => 242 | 222 => 246 | 228 => 270 | 229 => 271 | n => n, fun | n => n⟩
theorem Tryz.lays190 : Go.Proofs.Lays.n190 Tryz.prog Tryz.lays190_ren := {
 mixed := by kernel_rfl
 f125 := Tryz.func113.trans (congrArg some (by kernel_rfl))
 f128 := Tryz.func181.trans (congrArg some (by kernel_rfl))
 f129 := Tryz.func182.trans (congrArg some (by kernel_rfl))
 f190 := Tryz.func52.trans (congrArg some (by kernel_rfl))
 f258 := Tryz.func112.trans (congrArg some (by kernel_rfl))
 f302 := Tryz.func172.trans (congrArg some (by kernel_rfl))
 f303 := Tryz.func173.trans (congrArg some (by kernel_rfl))
 f304 := Tryz.func174.trans (congrArg some (by kernel_rfl))
 f305 := Tryz.func175.trans (congrArg some (by kernel_rfl))
 f306 := Tryz.func176.trans (congrArg some (by kernel_rfl))
 f307 := Tryz.func177.trans (congrArg some (by kernel_rfl))
 f308 := Tryz.func178.trans (congrArg some (by kernel_rfl))
 f309 := Tryz.func179.trans (congrArg some (by kernel_rfl))
 f310 := Tryz.func180.trans (congrArg some (by kernel_rfl))
 f329 := Tryz.func208.trans (congrArg some (by kernel_rfl))
 f330 := Tryz.func209.trans (congrArg some (by kernel_rfl))
 f333 := Tryz.func207.trans (congrArg some (by kernel_rfl))
 f334 := Tryz.func210.trans (congrArg some (by kernel_rfl))
 f335 := Tryz.func211.trans (congrArg some (by kernel_rfl))
 f336 := Tryz.func187.trans (congrArg some (by kernel_rfl))
 f344 := Tryz.func236.trans (congrArg some (by kernel_rfl))
 t0 := Tryz.underlying0
 a0 := Tryz.isAgg0
 z0 := Tryz.sizeOf0
 v0 := Tryz.zeroValue0
 t3 := Tryz.underlying3
 a3 := Tryz.isAgg3
 z3 := Tryz.sizeOf3
 v3 := Tryz.zeroValue3
 t4 := Tryz.underlying4
 a4 := Tryz.isAgg4
 z4 := Tryz.sizeOf4
 v4 := Tryz.zeroValue4
 t5 := Tryz.underlying5
 a5 := Tryz.isAgg5
 z5 := Tryz.sizeOf5
 v5 := Tryz.zeroValue5
 t9 := Tryz.underlying9
 a9 := Tryz.isAgg9
 z9 := Tryz.sizeOf9
 v9 := Tryz.zeroValue9
 t31 := Tryz.underlying39
 a31 := Tryz.isAgg39
 z31 := Tryz.sizeOf39
 v31 := Tryz.zeroValue39
 t46 := Tryz.underlying131
 a46 := Tryz.isAgg131
 z46 := Tryz.sizeOf131
 v46 := Tryz.zeroValue131
 t51 := Tryz.underlying222
 a51 := Tryz.isAgg222
 z51 := Tryz.sizeOf222
 v51 := Tryz.zeroValue222
 t53 := Tryz.underlying209
 a53 := Tryz.isAgg209
 z53 := Tryz.sizeOf209
 v53 := Tryz.zeroValue209
 t131 := Tryz.underlying219
 a131 := Tryz.isAgg219
 z131 := Tryz.sizeOf219
 v131 := Tryz.zeroValue219
 t182 := Tryz.underlying213
 a182 := Tryz.isAgg213
 z182 := Tryz.sizeOf213
 v182 := Tryz.zeroValue213
 t183 := Tryz.underlying214
 a183 := Tryz.isAgg214
 z183 := Tryz.sizeOf214
 v183 := Tryz.zeroValue214
 t218 := Tryz.underlying242
 a218 := Tryz.isAgg242
 z218 := Tryz.sizeOf242
 v218 := Tryz.zeroValue242
 t222 := Tryz.underlying246
 a222 := Tryz.isAgg246
 z222 := Tryz.sizeOf246
 v222 := Tryz.zeroValue246
 t228 := Tryz.underlying270
 a228 := Tryz.isAgg270
 z228 := Tryz.sizeOf270
 v228 := Tryz.zeroValue270
 t229 := Tryz.underlying271
 a229 := Tryz.isAgg271
 z229 := Tryz.sizeOf271
 v229 := Tryz.zeroValue271 }
open Go.Sort Go.RowKit in
theorem Tryz.slices_Sort_string (blk off cap : Nat) (ss : List (List UInt8)) (w : World) (hH : Holds encStr w blk off ss.toArray) (hblk : blk < w.heap.size) (hsz : ss.length < 4611686018427387904) :
 Calls Tryz.prog 52 #[.slice (some ⟨blk, off, none⟩) ss.length cap] w fun e w' =>
  e = .returned (.tuple #[]) ∧ ∃ n os, w' = grow (putRow encStr (Sort.ahead w n) blk off (ss.mergeSort fun x y => decide (x ≤ y)).toArray) os := Any.slices_Sort_string Tryz.lays190 blk off cap ss w hH hblk hsz
open Go.RowKit Go.Sort in
theorem Tryz.slices_Sort_string_none (p : Option Addr) (cap : Nat) (w : World) :
 Calls Tryz.prog 52 #[.slice p 0 cap] w fun e w' => e = .returned (.tuple #[]) ∧ w' = w := Any.slices_Sort_string_none Tryz.lays190 p cap w
end Go.Proofs
namespace Go.Proofs.YtknpbekoenbphaaGreatDoor
open Go Go.RowKit Licit
def Tab (w : World) : Prop := Lib.TabIs Tryz.prog w "internal/strconv.uint64pow10" .u64 Lib.pow10Tab ∧ 0 < w.heap.size
theorem kqg : Tryz.prog.globalNamed "internal/strconv.uint64pow10" = some 0 := by kernel_rfl
theorem Tab.below {B : Nat} {w w' : World} (h : Tab w) (hb : Below B w w') (hB : 0 < B) : Tab w' := ⟨var?_below hb kqg hB h.1, Nat.lt_of_lt_of_le h.2 hb.size⟩
theorem Tab.kept {S : Nat → Prop} {w w' : World} (h : Tab w) (hk : ka1 S w w') (hS : ¬ S 0) : Tab w' := by
 refine ⟨?_, Nat.lt_of_lt_of_le h.2 hk.size⟩
 have hv := h.1
 unfold Lib.TabIs World.var? at hv ⊢
 simp only [kqg, Option.bind_some] at hv ⊢
 rw [hk.block _ h.2 hS]
 exact hv
theorem Tab.same {w w' : World} (h : Tab w) (hb : Below w.heap.size w w') : Tab w' := h.below hb h.2
theorem ksh (w : World) (k : Nat) (os : Array Obj) : Below w.heap.size w (Go.Sort.grow (w.drewN k) os) :=
 ⟨rfl, rfl, rfl, by simp [Go.Sort.grow], fun i hi => by
   show (w.heap ++ os)[i]? = _
   rw [Array.getElem?_append_left hi]⟩
theorem kji (n : Int) (h0 : -9223372036854775808 ≤ n) (h1 : n ≤ 9223372036854775807) (w : World) (ht : Tab w) :
 Calls Tryz.prog 199 #[.int .i64 n] w fun e w' => e = .returned (.string (B (Lib.itoa n))) ∧ Below w.heap.size w w' := by
 refine (Tryz.strconv_Itoa n h0 h1 w ht.1).mono ?_
 rintro e w' ⟨rfl, k, os, rfl⟩
 exact ⟨rfl, ksh _ _ _⟩
theorem kdr {n : Int} (h0 : 0 ≤ n) (h1 : n ≤ 9223372036854775807) : (B (Lib.decDigits n.toNat)).size ≤ 21 := by
 have := Lib.itoa_length_le n (by omega) h1
 unfold Lib.itoa at this
 rw [if_neg (by omega)] at this
 exact this
theorem khz (n : Int) (w : World) (ht : Tab w) :
 Calls Tryz.prog 152 #[.int .i64 n] w fun e w' => e = .returned (.tuple #[.string (B (ke2 n).1), .int .i64 (ke2 n).2]) ∧ Below w.heap.size w w' := by
 by_cases hn : n < 0 ∨ 281474976710656 < n
 · have R : ke2 n = ([], 3) := by simp [ke2, hn]
   have HR := hdd R
   clear R
   go_enter Tryz.func152, Tryz.ntmps152
   go_wp2_with fail
   all_goals go_ret2
   all_goals exact ⟨by rw [HR.out]; rfl, Below.refl _ _⟩
 · have R : ke2 n = (Lib.decDigits n.toNat ++ [59], 0) := by simp [ke2, hn]
   have HR := hdd R
   clear R
   have b0 : 0 ≤ n := by omega
   have b1 : n ≤ 281474976710656 := by omega
   have hsz := kdr b0 (by omega)
   have HI := hdd (show Lib.itoa n = Lib.decDigits n.toNat by unfold Lib.itoa; rw [if_neg (by omega)])
   clear hn
   go_enter Tryz.func152, Tryz.ntmps152
   go_wp2_with (go_at_call 199; refine (kji n (by omega) (by omega) _ ht).mono ?_; rw [HI.out]; rintro e w' ⟨rfl, hb⟩)
   go_ret2
   exact ⟨by rw [HR.out, ← ka9]; rfl, hb⟩
theorem kg7 (s : Bs) (w : World) (hs : s.length ≤ maxLen) (ht : Tab w) :
 Calls Tryz.prog 153 #[.string (B s)] w fun e w' => e = .returned (.tuple #[.string (B (kar s).1), .int .i64 (kar s).2]) ∧ Below w.heap.size w w' := by
 have hss : (B s).size = s.length := rfl
 unfold maxLen at hs
 by_cases hn : 65536 < s.length
 · have R : kar s = ([], 10) := by simp [kar, hn]
   have HR := hdd R
   clear R
   go_enter Tryz.func153, Tryz.ntmps153
   go_wp2_with fail
   all_goals go_ret2
   all_goals exact ⟨by rw [HR.out]; rfl, Below.refl _ _⟩
 · have R : kar s = (Lib.decDigits s.length ++ [58] ++ s ++ [44], 0) := by simp [kar, hn]
   have HR := hdd R
   clear R
   have hsz := kdr (n := (s.length : Int)) (by omega) (by omega)
   rw [Int.toNat_natCast] at hsz
   have HI := hdd (show Lib.itoa (s.length : Int) = Lib.decDigits s.length by unfold Lib.itoa; rw [if_neg (by omega), Int.toNat_natCast])
   go_enter Tryz.func153, Tryz.ntmps153
   go_wp2_with (go_at_call 199; refine (kji _ (by omega) (by omega) _ ht).mono ?_; rw [HI.out]; rintro e w' ⟨rfl, hb⟩)
   go_ret2
   exact ⟨by rw [HR.out, ← ka9, ← ka9, ← ka9]; rfl, hb⟩
end Go.Proofs.YtknpbekoenbphaaGreatDoor
namespace Go.Proofs.YtknpbekoenbphaaGreatDoor
open Go Go.RowKit
theorem sizeBuilder : (Tryz.prog.info? 261).map (·.size) = some 2 := by kernel_rfl
theorem infoByte : (Tryz.prog.info? 5).map (fun i => (i.zero, i.size, i.bytes)) = some (some (.int .u8 0), 1, 1) := by kernel_rfl
theorem kk2 (b : Nat) (w : World) (h0 : w.cell? ⟨b, 0, none⟩ = some (.pointer (some ⟨b, 0, none⟩))) :
 Calls Tryz.prog 244 #[.pointer (some ⟨b, 0, none⟩)] w fun e w' => e = .returned (.tuple #[]) ∧ w' = w := by
 obtain ⟨j, hj, _⟩ := Option.map_eq_some_iff.1 sizeBuilder
 go_enter Tryz.func244, Tryz.ntmps244
 go_wp2
 rw [Lib.run_neq_ptr_same w _ Tryz.underlying259 hj]
 go_wp2
 go_end0
 exact ⟨rfl, rfl⟩
theorem kkd (b : Nat) (w : World) (h0 : w.cell? ⟨b, 0, none⟩ = some (.pointer none)) (hsh : w.shape? b = some (261, 2)) (hfz : w.frozen? ⟨b, 0, none⟩ = false) :
 Calls Tryz.prog 244 #[.pointer (some ⟨b, 0, none⟩)] w fun e w' => e = .returned (.tuple #[]) ∧ w' = w.setCell ⟨b, 0, none⟩ (.pointer (some ⟨b, 0, none⟩)) := by
 obtain ⟨j, hj, hjs⟩ := Option.map_eq_some_iff.1 sizeBuilder
 go_enter Tryz.func244, Tryz.ntmps244
 go_wp2
 rw [Lib.run_to_unsafe w ⟨b, 0, none⟩ Tryz.underlying259 Tryz.underlying289 hj (by rw [hjs]; decide) hsh (Nat.zero_lt_succ 1)]
 simp only [Result.andThen]
 rw [Oper.upon_value]
 go_wp2
 rw [run_callFunc_extern Tryz.func254 (by kernel_rfl) (by kernel_rfl) (by kernel_rfl) (e := Extern.AbiNoEscape.same) (by kernel_rfl)]
 rw [Lib.run_noEscape]
 simp only [Result.andThen]
 rw [Oper.upon_value]
 go_wp2
 rw [Lib.run_from_unsafe w ⟨b, 0, none⟩ Tryz.underlying289 Tryz.underlying259 hj hsh (by kernel_rfl)]
 simp only [Result.andThen]
 rw [Oper.upon_value]
 go_wp2
 go_end0
 exact ⟨rfl, rfl⟩
theorem kl6 (B b : Nat) (bs : List Value) (w : World) (h : Lib.IsBuilderF 261 5 B b bs w) :
 Calls Tryz.prog 244 #[.pointer (some ⟨b, 0, none⟩)] w fun e w' => e = .returned (.tuple #[]) ∧ (Lib.BuilderAtF 261 5 B b (.pointer (some ⟨b, 0, none⟩)) bs w' ∧ Below B w w' ∧ Lib.OthersKept 5 (some b) w w') := by
 rcases h with h | h
 · refine (kkd b w h.cell0 h.shape h.frozen0).mono ?_
   rintro e w' ⟨rfl, rfl⟩
   exact ⟨rfl, h.used _, (Below.refl B w).setCell (p := ⟨b, 0, none⟩) h.1 _, (Lib.OthersKept.refl _ _ w).setCell ⟨b, 0, none⟩ rfl _⟩
 · refine (kk2 b w h.cell0).mono ?_
   rintro e w' ⟨rfl, rfl⟩
   exact ⟨rfl, h, Below.refl B _, Lib.OthersKept.refl _ _ _⟩
theorem kee (B b : Nat) (bs : List Value) (s : ByteArray) (w : World) (h : Lib.IsBuilderF 261 5 B b bs w) (hlen : bs.length + s.size ≤ 140737488355328) (hBw : B ≤ w.heap.size) :
 Calls Tryz.prog 231 #[.pointer (some ⟨b, 0, none⟩), .string s] w fun e w' => e = .returned (.tuple #[.int .i64 s.size, .nilIface]) ∧ (Lib.BuilderAtF 261 5 B b (.pointer (some ⟨b, 0, none⟩)) (bs ++ Lib.strCells s) w' ∧ Below B w w' ∧ Lib.OthersKept 5 (some b) w w') := by
 obtain ⟨i0, hi, hz0, hz1, hz2⟩ := info_parts infoByte
 go_enter Tryz.func231, Tryz.ntmps231
 go_wp2_with (go_at_call 244; refine (kl6 B b bs _ h).mono ?_)
 rintro e w1 ⟨rfl, h1, hb1, hk1⟩
 obtain ⟨hB, v, hbk, hown, hne⟩ := h1
 have c0 : w1.cell? ⟨b, 0, none⟩ = some (.pointer (some ⟨b, 0, none⟩)) := by rw [Lib.cell_of_heap hbk]; rfl
 have c1 : w1.cell? ⟨b, 1, none⟩ = some v := by rw [Lib.cell_of_heap hbk]; rfl
 go_wp2_with (at_builtin; refine Lib.wpList_append_own_stringF _ rfl _ _ 208 9 rfl B 5 i0 Tryz.underlying208 Tryz.underlying9 hi hz0 hz1 hz2 _ _ _ rfl hown s rfl ?c3 ?c4 ?c5 ?_)
 case c3 => unfold maxLen; omega
 case c4 => omega
 case c5 => have := hb1.size; omega
 intro v' w2 hown' hgrow _
 have hlt : b < w1.heap.size := by
  rcases Nat.lt_or_ge b w1.heap.size with h' | h'
  · exact h'
  · simp [Array.getElem?_eq_none h'] at hbk
 have hb2 : w2.heap[b]? = some (.cells #[.pointer (some ⟨b, 0, none⟩), v] 261 (0, 0)) := by
  rw [hgrow.block b hlt (fun e => hne e.symm)]
  exact hbk
 have d0 : w2.cell? ⟨b, 0, none⟩ = some (.pointer (some ⟨b, 0, none⟩)) := by rw [Lib.cell_of_heap hb2]; rfl
 have d1 : w2.cell? ⟨b, 1, none⟩ = some v := by rw [Lib.cell_of_heap hb2]; rfl
 have f1 : w2.frozen? ⟨b, 1, none⟩ = false := Lib.frozen_of_heap hb2 1
 obtain ⟨ao, n', cap, rfl⟩ : ∃ ao n' cap, v' = .slice ao n' cap := by
  rcases hown'.2 with ⟨hv, _⟩ | ⟨g, cap, cur, fz, hv, _⟩
  · exact ⟨_, _, _, hv⟩
  · exact ⟨_, _, _, hv⟩
 go_wp2
 go_ret2
 refine ⟨rfl, ?_, ?_, (hk1.grown hgrow (Lib.ownsRowF_kind hown)).setCell ⟨b, 1, none⟩ rfl _⟩
 · exact Lib.BuilderAtF.put (T := 261) (e := 5) hB hb2 (bs' := bs ++ Lib.strCells s) (by simpa [Lib.strCells_length] using hown') (by decide)
 · exact (hb1.grown hgrow (by have := hb1.size; omega) (fun k hk => (hown.lt k hk).1)).setCell (p := ⟨b, 1, none⟩) hB _
end Go.Proofs.YtknpbekoenbphaaGreatDoor
