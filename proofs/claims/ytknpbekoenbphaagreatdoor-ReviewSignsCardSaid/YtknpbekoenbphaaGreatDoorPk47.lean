/- Parts of the proofs: WkRows. No condition beyond those at each theorem. -/
import Derived.Test.YtknpbekoenbphaaGreatDoorPk46
set_option linter.unusedVariables false
set_option linter.unusedSimpArgs false
set_option maxHeartbeats 16000000
set_option maxRecDepth 100000
namespace Go.Proofs.YtknpbekoenbphaaGreatDoor
open Go Go.RowKit Licit
attribute [local go_sem] Oper.semAt_some
theorem Tryz.infoSl : (Tryz.prog.info? 39).map (fun i => (i.zero, i.size, i.bytes)) = some (some (.slice none 0 0), 1, 24) := by kernel_rfl
def k2z (D : Nat) : Deferred := { target := .collected D, args := #[] }
def k2o (Ds : List Nat) (w w' : World) : Prop := w'.os = w.os ∧ w'.tape = w.tape ∧ w'.output = w.output ∧ w.heap.size ≤ w'.heap.size ∧ ∀ k, k < w.heap.size → k ∉ Ds → w'.heap[k]? = w.heap[k]?
def k0o (Ds : List Nat) (w : World) : Prop := Ds.Nodup ∧ ∀ D ∈ Ds, w.heap[D]? = some (.deferred (some []))
theorem ki0 {P : Program} {F : Fence} {n : Nat} {fn : Func} {tmps : Array Value} {R : Ending → World → Prop} : ∀ (Ds : List Nat) (w : World), k0o Ds w →
 (∀ w', k2o Ds w w' → LeavesIn F n P fn tmps R [] .returning w') → LeavesInM F n P fn tmps R (Ds.map k2z) .returning w
 | [], w, _, h => h w ⟨rfl, rfl, rfl, Nat.le_refl _, fun _ _ _ => rfl⟩
 | D :: Ds, w, ⟨hn, hm⟩, h => by
   have hD := hm D (List.mem_cons_self)
   rw [List.nodup_cons] at hn
   refine ⟨by simp, .inl ⟨_, _, rfl, run_takeDeferred hD, ?_⟩⟩
   refine ki0 Ds _ ⟨hn.2, fun E hE => ?_⟩ fun w' hw' => h w' ?_
   · rw [World.putObj_heap_other (fun e => by subst e; exact hn.1 hE)]
     exact hm E (List.mem_cons_of_mem _ hE)
   · obtain ⟨h1, h2, h3, h4, h5⟩ := hw'
     refine ⟨h1, h2, h3, by simpa using h4, fun k hk hne => ?_⟩
     rw [List.mem_cons, not_or] at hne
     rw [h5 k (by simpa using hk) hne.2, World.putObj_heap_other hne.1]
def kki (seed : Bs) (b n k : Nat) : List Bs := kdf seed b k ++ List.replicate (n - k) []
theorem krd (seed : Bs) (b n : Nat) : kki seed b n 0 = List.replicate n [] := by simp [kki, kdf]
theorem ktc (seed : Bs) (b n : Nat) : kki seed b n n = kdf seed b n := by simp [kki]
theorem knx (seed : Bs) (b : Nat) {n k : Nat} (h : k ≤ n) : (kki seed b n k).length = n := by simp [kki, kdl]; omega
theorem kq6 (seed : Bs) (b : Nat) {n k : Nat} (h : k < n) : (kki seed b n k).set k (knt seed b k) = kki seed b n (k + 1) := by
 unfold kki
 rw [ki8, List.set_append_right _ _ (by rw [kdl]; exact Nat.le_refl _), kdl, show n - k = (n - (k + 1)) + 1 by omega, List.replicate_succ]
 simp
theorem kz3 (n : Nat) : (madeCells #[Value.string ⟨#[]⟩] n).toList = (List.replicate n []).map vS := by
 simp [madeCells, vS, B]
 apply List.ext_getElem
 · simp
 · intro i h1 h2
   simp [Nat.mod_one]
theorem k1h (L : List Bs) (i : Nat) (x : Bs) : (L.map vS).toArray.setIfInBounds i (vS x) = ((L.set i x).map vS).toArray := by simp [List.map_set]
theorem kg4.isRows {base : Nat} {v : Value} {rows : List (List Bs)} {w : World} (h : kg4 base v rows w) (h1 : rows.length ≤ maxLen) (h2 : ∀ j, j < rows.length → (rows.getD j []).length ≤ maxLen) : ki4 v rows w := by
 obtain ⟨vs, hl, ho, hv⟩ := h
 exact ⟨vs, hl, IsSl.of_owns ho (by omega), fun j hj => IsSl.of_owns (by rw [List.length_map]; exact hv j hj) (by rw [List.length_map]; exact h2 j hj)⟩
theorem kqz {xs : List Bs} {i : Nat} (h : i < xs.length) : xs.getD i [] ∈ xs := by
 rw [List.getD_eq_getElem?_getD, List.getElem?_eq_getElem h]
 exact List.getElem_mem _
theorem kly {w : World} {base : Nat} {t : TypeId} {g n cap : Nat} {xs : List Bs} (h : w.ownsRow base t 1 (.slice (some ⟨g, 0, none⟩) n cap) n (xs.map vS)) {i : Nat} (hi : i < xs.length) : w.cell? ⟨g, i, none⟩ = some (vS (xs.getD i [])) := by
 rcases h.2 with ⟨h0, _⟩ | ⟨g', cap', cur, h1, h2, h3, h4, h5, h6, h7⟩
 · cases h0
 · simp only [Value.slice.injEq, Option.some.injEq, Addr.mk.injEq] at h1
   obtain ⟨⟨rfl, _⟩, _, rfl⟩ := h1
   rw [kab h3]
   have hl := h.1
   rw [List.length_map] at hl
   have e : (cur.toList.take (n * 1))[i]? = (xs.map vS)[i]? := by rw [h7]
   rw [List.getElem?_take, if_pos (by omega), Array.getElem?_toList, List.getElem?_map, List.getElem?_eq_getElem hi] at e
   rw [e, List.getD_eq_getElem?_getD, List.getElem?_eq_getElem hi]
   rfl
theorem kyd {w : World} {q : Nat} {o : Obj} (h : w.heap[q]? = some o) : q < w.heap.size := (Array.getElem?_eq_some_iff.1 h).1
theorem ki7 {w w' : World} {base : Nat} {t : TypeId} {size : Nat} {v : Value} {n : Nat} {xs : List Value} (h : w.ownsRow base t size v n xs) (hb : ∀ q, v.ownBlock = some q → w'.heap[q]? = w.heap[q]?) : w'.ownsRow base t size v n xs := by
 refine ⟨h.1, ?_⟩
 rcases h.2 with ⟨rfl, h0⟩ | ⟨g, cap, cur, rfl, h1, h2, h3⟩
 · exact .inl ⟨rfl, h0⟩
 · exact .inr ⟨g, cap, cur, rfl, h1, (hb g rfl).trans h2, h3⟩
theorem kdw {w : World} {base : Nat} {t : TypeId} {size : Nat} {v : Value} {n : Nat} {xs : List Value} (h : w.ownsRow base t size v n xs) {q : Nat} (hq : v.ownBlock = some q) : base ≤ q ∧ ∃ cs, w.heap[q]? = some (.cells cs t (0, 0)) := by
 rcases h.2 with ⟨rfl, h0⟩ | ⟨g, cap, cur, rfl, h1, h2, h3⟩
 · cases hq
 · cases (hq : some g = some q)
   exact ⟨h1, _, h2⟩
theorem kkj {w : World} {base : Nat} {t : TypeId} {size : Nat} {v : Value} {n : Nat} {xs : List Value} (h : w.ownsRow base t size v n xs) {q : Nat} (hq : v.ownBlock = some q) : q < w.heap.size := by
 obtain ⟨_, cs, hc⟩ := kdw h hq
 exact kac hc
theorem khu {w : World} {base : Nat} {t : TypeId} {v : Value} {n : Nat} {xs : List Value} (h : w.ownsRow base t 1 v n xs) : v.cells = #[v] := by
 rcases id h.2 with ⟨rfl, _⟩ | ⟨g, cap, cur, rfl, _⟩ <;> rfl
theorem kfn {w : World} {base : Nat} {t : TypeId} {v : Value} {n : Nat} {xs : List Value} (h : w.ownsRow base t 1 v n xs) : v.oneCell' = true := by
 rcases id h.2 with ⟨rfl, _⟩ | ⟨g, cap, cur, rfl, _⟩ <;> rfl
theorem koj (R : List Bs) {m : Nat} (ys : List (Off m)) (M : Nat) (h : ys.map (·.1) = kk5 M) : kc6 R ys = kfv R M := by
 have e : kc6 R ys = (ys.map (·.1)).map fun x => kep (R.getD x []) (R.getD (x + 1) []) := by simp [kc6]
 rw [e, h]
 simp [kk5, kfv]
def kz0 (seed : Bs) (b h : Nat) (w : World) (a : Act) (wr : World) : Prop :=
 ∃ (j : Nat) (vs : Nat → Value) (ov : Value) (Ds : List Nat) (x6 x8 x9 x10 x11 x12 x13 x14 x15 x16 x17 x18 x19 x20 x21 x22 x23 x24 x25 x26 x27 x28 x29 x30 x31 x32 x33 x34 x35 x36 x37 x38 x39 x40 x41 x42 x43 x44 x45 x46 x47 x48 x49 x50 x51 : Value), j ≤ h ∧
   (∀ i, i ≤ j → wr.ownsRow (w.heap.size + 1) 9 1 (vs i) (kd8 seed b h i).length ((kd8 seed b h i).map vS)) ∧
   wr.ownsRow (w.heap.size + 1) 39 1 ov (j + 1) ((List.range (j + 1)).map vs) ∧ k0o Ds wr ∧ (∀ D ∈ Ds, w.heap.size ≤ D) ∧ Below w.heap.size w wr ∧
   a = { tmps := #[.string (B seed), .agg #[.int .i64 (b : Int), .int .i64 (h : Int)], undef, .pointer (some ⟨w.heap.size, 0, none⟩), .slice none 0 0, vs j, x6, ov, x8, x9, x10, x11, x12, x13, x14, x15, x16, x17, x18, x19, x20, x21, x22, x23, x24, x25, x26, x27, x28, x29, x30, x31, x32, x33, x34, x35, x36, x37, x38, x39, x40, x41, x42, x43, x44, x45, x46, x47, x48, x49, x50, x51], defers := Ds.map k2z }
theorem kwv (seed : Bs) (b h : Nat) (w : World) (hs : seed.length ≤ maxLen) (hb : b ≤ 256) (hh : h ≤ 6) (ht : Tab w) :
 Calls Tryz.prog 150 #[.string (B seed), .agg #[.int .i64 (b : Int), .int .i64 (h : Int)]] w fun e w' => ∃ v, e = .returned v ∧ kg4 w.heap.size v ((List.range (h + 1)).map (kd8 seed b h)) w' ∧ Below w.heap.size w w' := by
 obtain ⟨i0, hi, hz0, hz1, hz2⟩ := info_parts Tryz.infoStr
 obtain ⟨i1, hi1, hy0, hy1, hy2⟩ := info_parts Tryz.infoSl
 have Hi := hdd hi
 have Hz0 := hdd hz0
 have Hz1 := hdd hz1
 have Hz2 := hdd hz2
 have Hi1 := hdd hi1
 have Hy0 := hdd hy0
 have Hy1 := hdd hy1
 have Hy2 := hdd hy2
 clear hi hz0 hz1 hz2 hi1 hy0 hy1 hy2
 have hp : 2 ^ h ≤ 64 := Nat.le_trans (Nat.pow_le_pow_right (by decide) hh) (by decide)
 obtain ⟨n, hn⟩ : ∃ n, 2 ^ h = n := ⟨_, rfl⟩
 have hpi : (1 : Int) * 2 ^ h = (n : Int) := by rw [← hn]; simp
 have hpi2 : (2 : Int) ^ h = (n : Int) := by rw [← hn]; simp
 rw [hn] at hp
 have HN := hdd hn
 clear hn
 refine callsIn_wide.1 (callsIn_of_wp_marks (F := Fence.wide) (n := 9) Tryz.func150 rfl trivial (wpIn_wide.2 ?_) rfl)
 simp only [Tryz.ntmps150, List.size_toArray, List.length_cons, List.length_nil, Nat.reduceAdd, Nat.reduceSub, Array.replicate_succ, Array.replicate_zero, List.push_toArray, List.append_toArray, List.nil_append, List.cons_append]
 go_wp2_with (first
  | (at_make
     refine wpList_make_full _ rfl _ _ 39 rfl (w.heap.size + 1) 9 i0 (.string ⟨#[]⟩) 1 Tryz.underlying39 Hi.out Hz0.out Hz1.out _ _ _ _ n rfl rfl rfl rfl (by rw [Hz2.out]; omega) (by unfold maxLen; omega) (by simp) ?_
     intro w1 ho1 hg1
     have hb1 : Below w.heap.size w w1 := ((Below.refl _ _).alloc (Nat.le_refl _) _).grown hg1 (by simp) (by simp)
     have hk1 : w1.heap[w.heap.size]? = some (.cells #[.int .i64 (b : Int), .int .i64 (h : Int)] 41) := (hg1.block _ (by simp) (by simp)).trans (kak _ _)
     have hr1 := Sha.own_full ho1
     rw [World.size_alloc, show (madeCells (Value.string ⟨#[]⟩).cells (n * 1)).toList = (kki seed b n 0).map vS by rw [krd, Nat.mul_one]; exact kz3 n] at hr1
     have HB1 := hdd hb1
     have HK1 := hdd hk1
     have HR1 := hdd hr1
     clear ho1 hg1 hb1 hk1 hr1))
 go_loopw [16] (fun i wr => ∃ k : Nat, k ≤ n ∧ i = .int .i64 k ∧ wr.heap[w.heap.size + 1]? = some (.cells ((kki seed b n k).map vS).toArray 9) ∧ wr.heap[w.heap.size]? = some (.cells #[.int .i64 (b : Int), .int .i64 (h : Int)] 41) ∧ Below w.heap.size w wr) (fun i _ => n - (intOf i).toNat)
 case atStart => exact ⟨0, by omega, rfl, HR1.out, HK1.out, HB1.out⟩
 case round =>
  obtain ⟨k, hk, rfl, hr, hK, hB⟩ := hrel
  have hc0 : wr.cell? ⟨w.heap.size, 0, none⟩ = some (.int .i64 (b : Int)) := by rw [kab hK]; rfl
  have hc1 : wr.cell? ⟨w.heap.size, 1, none⟩ = some (.int .i64 (h : Int)) := by rw [kab hK]; rfl
  have htr := ht.same hB
  have HR := hdd hr
  have HK := hdd hK
  have HB := hdd hB
  clear hr hK hB
  by_cases hlt : k < n
  · have hki : (k : Int) < (n : Int) := by omega
    go_wp2_with (first
     | (go_at_call 197
        refine (kzb seed b (h : Int) (k : Int) _ hs hb htr).mono ?_
        rintro e w2 ⟨rfl, hb2⟩
        have HR2 := bhh hb2 HR
        have HK2 := bhh hb2 HK
        have HB2 := hdd (HB.out.next hb2)
        clear hb2)
     | (refine kae rfl 9 _ _ rfl (w.heap.size + 1) k rfl (vS (knt seed b k)) rfl rfl rfl _ _ HR2.out (by simp [knx seed b hk]; exact hlt) (by kernel_rfl) ?_
        intro w3 h3 hk3
        rw [k1h, kq6 seed b hlt] at h3
        have HR3 := hdd h3
        have HK3 := hdd ((hk3.block _ (kac HK2.out) (fun e => by have : w.heap.size = w.heap.size + 1 := e; omega)).trans HK2.out)
        have HB3 := hdd (HB2.out.trans (hk3.below HB2.out.size (fun q hq e => by have : q = w.heap.size + 1 := e; omega)))
        clear h3 hk3))
    go_roundw
    case rel => exact ⟨k + 1, by omega, by go_num, HR3.out, HK3.out, HB3.out⟩
    case measure => simp [intOf]; omega
  · obtain rfl : k = n := by omega
    go_wp2
    have hR0 : kd8 seed b h 0 = kdf seed b k := by show kdf seed b (2 ^ h) = _; rw [HN.out]
    have hrow0 : (wr.alloc (.cells #[.slice (some ⟨w.heap.size + 1, 0, none⟩) k k] 39)).ownsRow (w.heap.size + 1) 9 1 (.slice (some ⟨w.heap.size + 1, 0, none⟩) k k) (kd8 seed b h 0).length ((kd8 seed b h 0).map vS) := by
     rw [hR0, kdl]
     have := kc3 (base := w.heap.size + 1) (n := k) HR.out (Nat.le_refl _) (by simp [knx seed b (Nat.le_refl k)]) (by unfold maxLen; omega)
     rw [ktc] at this
     exact this.alloc _
    have hout0 : (wr.alloc (.cells #[.slice (some ⟨w.heap.size + 1, 0, none⟩) k k] 39)).ownsRow (w.heap.size + 1) 39 1 (.slice (some ⟨wr.heap.size, 0, none⟩) 1 1) 1 [.slice (some ⟨w.heap.size + 1, 0, none⟩) k k] := kc3 (kak _ _) (Nat.le_of_lt (kac HR.out)) rfl (by decide)
    refine wp_loop (kz0 seed b h w) (fun a _ => kvv (a.tmps.getD 5 undef)) ⟨0, fun _ => .slice (some ⟨w.heap.size + 1, 0, none⟩) k k, .slice (some ⟨wr.heap.size, 0, none⟩) 1 1, [], _, _, _, _, _, _, _, _, _, _, _, _, _, _, _, _, _, _, _, _, _, _, _, _, _, _, _, _, _, _, _, _, _, _, _, _, _, _, _, _, _, _, _, _, _, by omega, fun i hi => (show i = 0 by omega) ▸ hrow0, hout0, ⟨List.nodup_nil, by simp⟩, by simp, HB.out.alloc HB.out.size _, rfl⟩ ?_
    clear hrow0 hout0 hR0
    rintro a w2 ⟨j, vs, ov, Ds, x6, x8, x9, x10, x11, x12, x13, x14, x15, x16, x17, x18, x19, x20, x21, x22, x23, x24, x25, x26, x27, x28, x29, x30, x31, x32, x33, x34, x35, x36, x37, x38, x39, x40, x41, x42, x43, x44, x45, x46, x47, x48, x49, x50, x51, hj, hV, hO, hM, hD, hB, ha⟩
    dsimp only at ha
    subst ha
    have hlen := kjn seed b h hj
    obtain ⟨m, hm⟩ : ∃ m, (kd8 seed b h j).length = m := ⟨_, rfl⟩
    have hVj := hV j (Nat.le_refl j)
    rw [hm] at hVj hlen
    have hm64 : m ≤ 64 := by
     rw [hlen]
     exact Nat.le_trans (Nat.pow_le_pow_right (by decide) (show h - j ≤ 6 by omega)) (by decide)
    have HV := hdd hV
    have HO := hdd hO
    have HM := hdd hM
    have HD := hdd hD
    have HB2 := hdd hB
    have Hm := hdd hm
    have HVj := hdd hVj
    have ht2 := ht.same hB
    clear hV hO hM hD hB hm hVj
    by_cases hlt : j < h
    · obtain ⟨M, hM2⟩ : ∃ M, 2 ^ (h - (j + 1)) = M := ⟨_, rfl⟩
      have hmM : m = 2 * M := by rw [hlen, show h - j = (h - (j + 1)) + 1 by omega, Nat.pow_succ, hM2, Nat.mul_comm]
      have hM0 : 0 < M := by rw [← hM2]; exact Nat.pow_pos (by decide)
      obtain ⟨g, rc, hvj, hgB, hgl, hgc⟩ := kb2 HVj.out (by omega)
      rw [hvj]
      have HMM := hdd hmM
      have Hvj := hdd hvj
      have hm1 : 1 < m := by omega
      clear hlen hM2 hmM hvj
      go_wp2_with (go_at_call 198; refine (kt9 _ _ _ _).mono ?_; rintro e w3 ⟨rfl, rfl⟩)
      obtain ⟨W0, hW0⟩ : ∃ W0, W0 = ((w2.alloc (.cells #[.slice none 0 0] 39)).alloc (.cells #[.slice (some ⟨g, 0, none⟩) m rc] 39)).alloc (.cells #[.int .i64 2] 3) := ⟨_, rfl⟩
      have hWB : Below w2.heap.size w2 W0 := by rw [hW0]; exact (((Below.refl _ _).alloc (Nat.le_refl _) _).alloc (by simp) _).alloc (by simp; omega) _
      have hWA : W0.heap[w2.heap.size]? = some (.cells #[.slice none 0 0] 39) := by rw [hW0]; exact kaq (kaq (kak _ _))
      have hWs : W0.heap[w2.heap.size + 1]? = some (.cells #[.slice (some ⟨g, 0, none⟩) m rc] 39) := by rw [hW0]; exact kaq (kaj (by simp) rfl)
      have hWn : W0.heap[w2.heap.size + 1 + 1]? = some (.cells #[.int .i64 2] 3) := by rw [hW0]; exact kaj (by simp) rfl
      have hWz : W0.heap.size = w2.heap.size + 3 := by rw [hW0]; simp
      rw [← hW0]
      have HWB := hdd hWB
      have HWA := hdd hWA
      have HWs := hdd hWs
      have HWn := hdd hWn
      have HWz := hdd hWz
      clear hW0 hWB hWA hWs hWn hWz
      refine wpIn_wide.1 (wpIn_rangeFunc_ownG (F := Fence.wide) (n := 9) rfl (by decide) (gf := 229) (lb := #[.pointer (some ⟨w2.heap.size + 1, 0, none⟩), .pointer (some ⟨w2.heap.size + 1 + 1, 0, none⟩)]) rfl trivial (enters_of Tryz.func229 (by kernel_rfl) rfl)
       (ko3 (9 - 1) (by decide) (w2.heap.size + 1) (w2.heap.size + 1 + 1) g m rc M HMM.out hgc (by omega) W0 HWs.out HWn.out)
       (fun h1 h2 => ⟨h2.1.trans h1.1, h2.2.trans h1.2⟩) (fun W l o o' hl _ _ _ => ⟨World.putObj_heap_other (by have := HWz.out; omega), World.putObj_heap_other (by have := HWz.out; omega)⟩) (Below.refl _ _) (fun _ => rfl)
       (fun pre W => kh3 (kd8 seed b h j) w2.heap.size W0 pre W) (fun _ _ _ => False) (kh3.own _ _ _ (by have := HWz.out; omega)) (fun _ _ _ _ _ hs _ _ => hs)
       ⟨ka1.refl _ _, _, HWA.out, World.ownsRow_nil _ _ _ _⟩
       (fun x => { tmps := #[.string (B seed), .agg #[.int .i64 (b : Int), .int .i64 (h : Int)], undef, .pointer (some ⟨w.heap.size, 0, none⟩), .slice none 0 0, .slice (some ⟨g, 0, none⟩) m rc, x6, ov, .pointer (some ⟨w2.heap.size, 0, none⟩), .slice (some ⟨g, x.1, none⟩) 2 2, x10, x11, x12, x13, x14, x15, x16, x17, x18, x19, x20, x21, x22, x23, x24, x25, x26, x27, x28, .slice (some ⟨g, 0, none⟩) m rc, .int .i64 (m : Int), .bool true, .slice (some ⟨g, 0, none⟩) m rc, .func (.func 229) #[] #[.pointer (some ⟨w2.heap.size + 1, 0, none⟩), .pointer (some ⟨w2.heap.size + 1 + 1, 0, none⟩)], .slice (some ⟨g, x.1, none⟩) 2 2, x35, x36, x37, x38, x39, x40, x41, x42, x43, x44, x45, x46, x47, x48, x49, x50, x51], defers := [] }) ?assign ?body ?done ?stop)
      case assign =>
       intro l x W K hK
       dsimp only at hK
       gi_wp2
       exact hK
      case stop =>
       rintro D c pre W _ _ h _
       exact h.elim
      case body =>
       rintro l pre ⟨x, hx⟩ W ⟨hK, v, hbx, hrow⟩ hpre
       dsimp only
       obtain ⟨x0, hx0⟩ : ∃ y, (kd8 seed b h j).getD x [] = y := ⟨_, rfl⟩
       obtain ⟨x1, hx1⟩ : ∃ y, (kd8 seed b h j).getD (x + 1) [] = y := ⟨_, rfl⟩
       have hstep : kc6 (kd8 seed b h j) pre ++ [kep x0 x1] = kc6 (kd8 seed b h j) (pre ++ [⟨x, hx⟩]) := by simp [kc6, ← hx0, ← hx1]
       have hl0 : x0.length ≤ maxLen := by rw [← hx0]; exact kgw (kqq j _ (kqz (show _ < (kd8 seed b h j).length by rw [Hm.out]; omega)))
       have hl1 : x1.length ≤ maxLen := by rw [← hx1]; exact kgw (kqq j _ (kqz (show _ < (kd8 seed b h j).length by rw [Hm.out]; omega)))
       have hgA : g ≠ w2.heap.size := by omega
       have hg0 : g < W0.heap.size := by have := HWz.out; omega
       have hA0 : w2.heap.size < W0.heap.size := by have := HWz.out; omega
       have hc2 : w2.cell? ⟨g, x, none⟩ = some (.string (B x0)) ∧ w2.cell? ⟨g, x + 1, none⟩ = some (.string (B x1)) := by
        have hv := HVj.out
        rw [Hvj.out] at hv
        exact ⟨(kly hv (by rw [Hm.out]; omega)).trans (by rw [hx0]; rfl), (kly hv (by rw [Hm.out]; omega)).trans (by rw [hx1]; rfl)⟩
       have hS : ∀ Wc, ka1 (Licit.One w2.heap.size) W0 Wc → (fun W' : World => W'.cell? ⟨g, x, none⟩ = some (.string (B x0)) ∧ W'.cell? ⟨g, x + 1, none⟩ = some (.string (B x1))) Wc := fun Wc hk =>
        ⟨(hk.cell hg0 hgA).trans ((HWB.out.cell hgl).trans hc2.1), (hk.cell hg0 hgA).trans ((HWB.out.cell hgl).trans hc2.2)⟩
       have hK0 := hK
       have htW : Tab W := ht2.same (HWB.out.trans (hK0.below (Nat.le_of_lt hA0) (fun k hk e => by have : k = w2.heap.size := e; omega)))
       have hEnd : ∀ (v3 : Value) (W10 W11 : World), ka1 (Licit.One w2.heap.size) W0 W11 → KeepsOthers W W10 → W10.heap[w2.heap.size]? = some (.cells #[v] 39) → W10.ownsRow W0.heap.size 9 1 v3 (pre.length + 1) ((kc6 (kd8 seed b h j) pre).map vS ++ [vS (kep x0 x1)]) →
        W11.heap[w2.heap.size]? = some (.cells (#[v].setIfInBounds 0 v3) 39) → ka1 (Licit.One w2.heap.size) W10 W11 →
        KeepsFrom W0.heap.size W W11 ∧ KpC (w2.heap.size + 1) (w2.heap.size + 1 + 1) W W11 ∧ kh3 (kd8 seed b h j) w2.heap.size W0 (pre ++ [⟨x, hx⟩]) W11 := by
        intro v3 W10 W11 h1 h2 h3 h4 h5 h6
        have hz := HWz.out
        refine ⟨(h2.trans (kou h6 h3)).from _, ⟨(h1.block _ (by omega) (fun e => by have : w2.heap.size + 1 = w2.heap.size := e; omega)).trans (hK0.block _ (by omega) (fun e => by have : w2.heap.size + 1 = w2.heap.size := e; omega)).symm, (h1.block _ (by omega) (fun e => by have : w2.heap.size + 1 + 1 = w2.heap.size := e; omega)).trans (hK0.block _ (by omega) (fun e => by have : w2.heap.size + 1 + 1 = w2.heap.size := e; omega)).symm⟩, h1, v3, h5, ?_⟩
        rw [← hstep, List.length_append, List.map_append]
        refine kaf h4 (fun q hq hlt => h6.block q hlt (fun e => by have : q = w2.heap.size := e; omega))
       obtain ⟨Wd, hWd⟩ : ∃ Wd, W.drew = Wd := ⟨_, rfl⟩
       have HWd := hdd (show Below W.heap.size W Wd from hWd ▸ ⟨rfl, rfl, rfl, Nat.le_refl _, fun _ _ => rfl⟩)
       have hKd := hK0.trans (ka1.of_below HWd.out)
       have Hbd := hdd (kad HWd.out (kac hbx) hbx)
       obtain ⟨W7, h7⟩ : ∃ W7, Wd.alloc (.cells #[.string ⟨#[110, 111, 100, 101]⟩, .string (B x0), .string (B x1)] 9) = W7 := ⟨_, rfl⟩
       have HW7 := hdd (show Below W.heap.size W W7 from h7 ▸ HWd.out.alloc HWd.out.size _)
       have hK7 := hK0.trans (ka1.of_below HW7.out)
       have Hb7 := hdd (kad HW7.out (kac hbx) hbx)
       have hM7 : Calls Tryz.prog 145 #[.slice (some ⟨Wd.heap.size, 0, none⟩) 3 3] W7 fun e w' => e = .returned (.string (B (kep x0 x1))) ∧ Below Wd.heap.size Wd w' := by
        rw [← h7]
        exact kcg.alloc (ks6 (l := [ky9, x0, x1]) 3 rfl (by decide) rfl (by decide) (by intro z hz; simp at hz; rcases hz with rfl | rfl | rfl; decide; exact hl0; exact hl1) Wd (htW.same HWd.out))
       have H7 := hdd h7
       have HM7 := hdd hM7
       have HS := hdd hS
       have HKd := hdd hKd
       have HK7 := hdd hK7
       have HEnd := hdd hEnd
       have hpl : pre.length ≤ 1000 := by have := HMM.out; omega
       have hxi : (x : Int) < (2 : Int) ∨ True := .inr trivial
       clear hx0 hx1 hstep hc2 hS htW hEnd h7 hM7 hKd hK7 hK
       gi_wp2
       refine wpIn_region_any (by kernel_rfl) ?_
       refine kea l (kya (by rfl)) ?_ _ _ _ _ (wpAny_of_held (S := fun W' : World => W'.cell? ⟨g, x, none⟩ = some (.string (B x0)) ∧ W'.cell? ⟨g, x + 1, none⟩ = some (.string (B x1))) _ _ _ _ ?_)
       · rintro ⟨a, w, h⟩
         exact h
       change wpAnyH _ _ _ _ _ _ _ _ W.drew
       rw [hWd]
       clear hWd
       -- GEN
       refine wpAnyH_take (i := 1) (v := .slice (some ⟨g, x, none⟩) 2 2) rfl (by kernel_rfl) (by kernel_rfl) (by kernel_rfl) (fun _ _ _ h => h) (Or.inl ⟨by rfl, fun w hSw => by first | (obtain ⟨hS1, hS2⟩ := hSw; go_simp; done) | (obtain ⟨hS1, hS2⟩ := hSw; go_simp; with_reducible rfl)⟩) (HS.out _ HKd.out) ?_
       try simp only [Act.put, List.setIfInBounds_toArray]
       refine wpAnyH_take (i := 2) (v := .pointer (some ⟨g, x, none⟩)) rfl (by kernel_rfl) (by kernel_rfl) (by kernel_rfl) (fun _ _ _ h => h) (Or.inl ⟨by rfl, fun w hSw => by first | (obtain ⟨hS1, hS2⟩ := hSw; go_simp; done) | (obtain ⟨hS1, hS2⟩ := hSw; go_simp; with_reducible rfl)⟩) (HS.out _ HKd.out) ?_
       try simp only [Act.put]
       refine wpAnyH_take (i := 3) (v := .string (B x0)) rfl (by kernel_rfl) (by kernel_rfl) (by kernel_rfl) (fun _ _ _ h => h) (Or.inl ⟨by rfl, fun w hSw => by first | (obtain ⟨hS1, hS2⟩ := hSw; go_simp; done) | (obtain ⟨hS1, hS2⟩ := hSw; go_simp; with_reducible rfl)⟩) (HS.out _ HKd.out) ?_
       try simp only [Act.put]
       refine wpAnyH_take (i := 4) (v := .slice (some ⟨g, x, none⟩) 2 2) rfl (by kernel_rfl) (by kernel_rfl) (by kernel_rfl) (fun _ _ _ h => h) (Or.inl ⟨by rfl, fun w hSw => by first | (obtain ⟨hS1, hS2⟩ := hSw; go_simp; done) | (obtain ⟨hS1, hS2⟩ := hSw; go_simp; with_reducible rfl)⟩) (HS.out _ HKd.out) ?_
       try simp only [Act.put]
       refine wpAnyH_take (i := 5) (v := .pointer (some ⟨g, x + 1, none⟩)) rfl (by kernel_rfl) (by kernel_rfl) (by kernel_rfl) (fun _ _ _ h => h) (Or.inl ⟨by rfl, fun w hSw => by first | (obtain ⟨hS1, hS2⟩ := hSw; go_simp; done) | (obtain ⟨hS1, hS2⟩ := hSw; go_simp; with_reducible rfl)⟩) (HS.out _ HKd.out) ?_
       try simp only [Act.put]
       refine wpAnyH_take (i := 6) (v := .string (B x1)) rfl (by kernel_rfl) (by kernel_rfl) (by kernel_rfl) (fun _ _ _ h => h) (Or.inl ⟨by rfl, fun w hSw => by first | (obtain ⟨hS1, hS2⟩ := hSw; go_simp; done) | (obtain ⟨hS1, hS2⟩ := hSw; go_simp; with_reducible rfl)⟩) (HS.out _ HKd.out) ?_
       try simp only [Act.put]
       refine wpAnyH_ready (rs := [0, 7]) (by kernel_rfl) (by simp) ?_
       refine AllReadyH.cons rfl (fun K hK => ?_) ?_
       · have hcb := kab Hbd.out 0
         go_simp
         clear hcb
         refine hK.out _ _ (HS.out _ HKd.out) (fun _ => ?_)
         clear hK K
         try simp only [Act.put, s1, s2, s3]
         refine wpAnyH_ready (rs := [7]) (by kernel_rfl) (by simp) ?_
         refine AllReadyH.cons rfl (fun K hK => ?_) ?_
         · go_simp
           rw [H7.out]
           refine hK.out _ _ (HS.out _ HK7.out) (fun _ => ?_)
           clear hK K
           try simp only [Act.put, s1, s2, s3]
           refine wpAnyH_ready (rs := [8]) (by kernel_rfl) (by simp) ?_
           refine AllReadyH.cons rfl (fun K hK => ?_) ?_
           · go_simp
             refine HM7.out.mono ?_
             rintro e W8 ⟨rfl, hb8⟩
             have HW8 := hdd (HWd.out.next hb8)
             clear hb8
             have HK8 := hdd (hK0.trans (ka1.of_below HW8.out))
             have Hb8 := hdd (kad HW8.out (kac hbx) hbx)
             refine hK.out _ _ (HS.out _ HK8.out) (fun _ => ?_)
             clear hK K
             try simp only [Act.put, s1, s2, s3]
             refine wpAnyH_ready (rs := [9]) (by kernel_rfl) (by simp) ?_
             refine AllReadyH.cons rfl (fun K hK => ?_) ?_
             · go_simp
               obtain ⟨W9, h9⟩ : ∃ W9, W8.alloc (.cells #[.string (B (kep x0 x1))] 9) = W9 := ⟨_, rfl⟩
               rw [h9]
               have HW9 := hdd (show Below W.heap.size W W9 from h9 ▸ HW8.out.alloc HW8.out.size _)
               have HK9 := hdd (hK0.trans (ka1.of_below HW9.out))
               have Hb9 := hdd (kad HW9.out (kac hbx) hbx)
               have Hn9 := hdd (show W9.heap[W8.heap.size]? = some (.cells #[.string (B (kep x0 x1))] 9) from h9 ▸ kak _ _)
               clear h9
               refine hK.out _ _ (HS.out _ HK9.out) (fun _ => ?_)
               clear hK K
               try simp only [Act.put, s1, s2, s3]
               refine wpAnyH_ready (rs := [10]) (by kernel_rfl) (by simp) ?_
               refine AllReadyH.cons rfl (fun K hK => ?_) ?_
               · refine kck rfl _ _ 39 rfl W0.heap.size 9 i0 (.string ⟨#[]⟩) 1 16 Tryz.underlying39 Hi.out Hz0.out Hz1.out Hz2.out rfl (by decide) v pre.length ((kc6 (kd8 seed b h j) pre).map vS) rfl (kaf hrow (fun q _ hq => HW9.out.block q hq)) ⟨W8.heap.size, 0, none⟩ 1 1 [vS (kep x0 x1)] rfl rfl (kbm Hn9.out) (by simp [vS, Value.oneCell']) (by unfold maxLen; omega) (by omega) HK9.out.size ?_
                 intro v3 W10 ho3 hg3 _
                 have ho9 := kaf hrow (fun q _ hq => HW9.out.block q hq)
                 have hown := fun q hq => (ho9.lt q hq).1
                 have HK10 := hdd (HK9.out.grown hg3 (fun q hq => .inl (hown q hq)))
                 have Hb10 := hdd ((hg3.block _ (kac Hb9.out) (fun e => by have := hown _ e.symm; omega)).trans Hb9.out)
                 have HO10 := hdd ((kes HW9.out).trans (kgt ho9 hg3))
                 have HR10 := hdd ho3
                 clear ho3 hg3 ho9 hown
                 refine hK.out _ _ (HS.out _ HK10.out) (fun _ => ?_)
                 clear hK K
                 try simp only [Act.put, List.setIfInBounds_toArray]
                 refine wpAnyH_ready (rs := [11]) (by kernel_rfl) (by simp) ?_
                 refine AllReadyH.cons rfl (fun K hK => ?_) ?_
                 · refine kba rfl 39 _ _ rfl w2.heap.size 0 rfl v3 rfl (khu HR10.out) (kfn HR10.out) _ _ Hb10.out (by simp) (by kernel_rfl) ?_
                   intro W11 hb11 hk11
                   have HK11 := hdd (HK10.out.trans (hk11.mono (fun _ _ e => e)))
                   refine hK.out _ _ (HS.out _ HK11.out) (fun _ => ?_)
                   clear hK K
                   try simp only [Act.put]
                   refine wpAnyH_done (by kernel_rfl) ?_ _
                   exact HEnd.out v3 W10 W11 HK11.out HO10.out Hb10.out HR10.out hb11 hk11
                 exact AllReadyH.nil
               exact AllReadyH.nil
             exact AllReadyH.nil
           exact AllReadyH.nil
         exact AllReadyH.nil
       refine AllReadyH.cons rfl (fun K hK => ?_) ?_
       · go_simp
         rw [H7.out]
         refine hK.out _ _ (HS.out _ HK7.out) (fun _ => ?_)
         clear hK K
         try simp only [Act.put, s1, s2, s3]
         refine wpAnyH_ready (rs := [0, 8]) (by kernel_rfl) (by simp) ?_
         refine AllReadyH.cons rfl (fun K hK => ?_) ?_
         · have hcb := kab Hb7.out 0
           go_simp
           clear hcb
           refine hK.out _ _ (HS.out _ HK7.out) (fun _ => ?_)
           clear hK K
           try simp only [Act.put, s1, s2, s3]
           refine wpAnyH_ready (rs := [8]) (by kernel_rfl) (by simp) ?_
           refine AllReadyH.cons rfl (fun K hK => ?_) ?_
           · go_simp
             refine HM7.out.mono ?_
             rintro e W8 ⟨rfl, hb8⟩
             have HW8 := hdd (HWd.out.next hb8)
             clear hb8
             have HK8 := hdd (hK0.trans (ka1.of_below HW8.out))
             have Hb8 := hdd (kad HW8.out (kac hbx) hbx)
             refine hK.out _ _ (HS.out _ HK8.out) (fun _ => ?_)
             clear hK K
             try simp only [Act.put, s1, s2, s3]
             refine wpAnyH_ready (rs := [9]) (by kernel_rfl) (by simp) ?_
             refine AllReadyH.cons rfl (fun K hK => ?_) ?_
             · go_simp
               obtain ⟨W9, h9⟩ : ∃ W9, W8.alloc (.cells #[.string (B (kep x0 x1))] 9) = W9 := ⟨_, rfl⟩
               rw [h9]
               have HW9 := hdd (show Below W.heap.size W W9 from h9 ▸ HW8.out.alloc HW8.out.size _)
               have HK9 := hdd (hK0.trans (ka1.of_below HW9.out))
               have Hb9 := hdd (kad HW9.out (kac hbx) hbx)
               have Hn9 := hdd (show W9.heap[W8.heap.size]? = some (.cells #[.string (B (kep x0 x1))] 9) from h9 ▸ kak _ _)
               clear h9
               refine hK.out _ _ (HS.out _ HK9.out) (fun _ => ?_)
               clear hK K
               try simp only [Act.put, s1, s2, s3]
               refine wpAnyH_ready (rs := [10]) (by kernel_rfl) (by simp) ?_
               refine AllReadyH.cons rfl (fun K hK => ?_) ?_
               · refine kck rfl _ _ 39 rfl W0.heap.size 9 i0 (.string ⟨#[]⟩) 1 16 Tryz.underlying39 Hi.out Hz0.out Hz1.out Hz2.out rfl (by decide) v pre.length ((kc6 (kd8 seed b h j) pre).map vS) rfl (kaf hrow (fun q _ hq => HW9.out.block q hq)) ⟨W8.heap.size, 0, none⟩ 1 1 [vS (kep x0 x1)] rfl rfl (kbm Hn9.out) (by simp [vS, Value.oneCell']) (by unfold maxLen; omega) (by omega) HK9.out.size ?_
                 intro v3 W10 ho3 hg3 _
                 have ho9 := kaf hrow (fun q _ hq => HW9.out.block q hq)
                 have hown := fun q hq => (ho9.lt q hq).1
                 have HK10 := hdd (HK9.out.grown hg3 (fun q hq => .inl (hown q hq)))
                 have Hb10 := hdd ((hg3.block _ (kac Hb9.out) (fun e => by have := hown _ e.symm; omega)).trans Hb9.out)
                 have HO10 := hdd ((kes HW9.out).trans (kgt ho9 hg3))
                 have HR10 := hdd ho3
                 clear ho3 hg3 ho9 hown
                 refine hK.out _ _ (HS.out _ HK10.out) (fun _ => ?_)
                 clear hK K
                 try simp only [Act.put, List.setIfInBounds_toArray]
                 refine wpAnyH_ready (rs := [11]) (by kernel_rfl) (by simp) ?_
                 refine AllReadyH.cons rfl (fun K hK => ?_) ?_
                 · refine kba rfl 39 _ _ rfl w2.heap.size 0 rfl v3 rfl (khu HR10.out) (kfn HR10.out) _ _ Hb10.out (by simp) (by kernel_rfl) ?_
                   intro W11 hb11 hk11
                   have HK11 := hdd (HK10.out.trans (hk11.mono (fun _ _ e => e)))
                   refine hK.out _ _ (HS.out _ HK11.out) (fun _ => ?_)
                   clear hK K
                   try simp only [Act.put]
                   refine wpAnyH_done (by kernel_rfl) ?_ _
                   exact HEnd.out v3 W10 W11 HK11.out HO10.out Hb10.out HR10.out hb11 hk11
                 exact AllReadyH.nil
               exact AllReadyH.nil
             exact AllReadyH.nil
           exact AllReadyH.nil
         refine AllReadyH.cons rfl (fun K hK => ?_) ?_
         · go_simp
           refine HM7.out.mono ?_
           rintro e W8 ⟨rfl, hb8⟩
           have HW8 := hdd (HWd.out.next hb8)
           clear hb8
           have HK8 := hdd (hK0.trans (ka1.of_below HW8.out))
           have Hb8 := hdd (kad HW8.out (kac hbx) hbx)
           refine hK.out _ _ (HS.out _ HK8.out) (fun _ => ?_)
           clear hK K
           try simp only [Act.put, s1, s2, s3]
           refine wpAnyH_ready (rs := [0, 9]) (by kernel_rfl) (by simp) ?_
           refine AllReadyH.cons rfl (fun K hK => ?_) ?_
           · have hcb := kab Hb8.out 0
             go_simp
             clear hcb
             refine hK.out _ _ (HS.out _ HK8.out) (fun _ => ?_)
             clear hK K
             try simp only [Act.put, s1, s2, s3]
             refine wpAnyH_ready (rs := [9]) (by kernel_rfl) (by simp) ?_
             refine AllReadyH.cons rfl (fun K hK => ?_) ?_
             · go_simp
               obtain ⟨W9, h9⟩ : ∃ W9, W8.alloc (.cells #[.string (B (kep x0 x1))] 9) = W9 := ⟨_, rfl⟩
               rw [h9]
               have HW9 := hdd (show Below W.heap.size W W9 from h9 ▸ HW8.out.alloc HW8.out.size _)
               have HK9 := hdd (hK0.trans (ka1.of_below HW9.out))
               have Hb9 := hdd (kad HW9.out (kac hbx) hbx)
               have Hn9 := hdd (show W9.heap[W8.heap.size]? = some (.cells #[.string (B (kep x0 x1))] 9) from h9 ▸ kak _ _)
               clear h9
               refine hK.out _ _ (HS.out _ HK9.out) (fun _ => ?_)
               clear hK K
               try simp only [Act.put, s1, s2, s3]
               refine wpAnyH_ready (rs := [10]) (by kernel_rfl) (by simp) ?_
               refine AllReadyH.cons rfl (fun K hK => ?_) ?_
               · refine kck rfl _ _ 39 rfl W0.heap.size 9 i0 (.string ⟨#[]⟩) 1 16 Tryz.underlying39 Hi.out Hz0.out Hz1.out Hz2.out rfl (by decide) v pre.length ((kc6 (kd8 seed b h j) pre).map vS) rfl (kaf hrow (fun q _ hq => HW9.out.block q hq)) ⟨W8.heap.size, 0, none⟩ 1 1 [vS (kep x0 x1)] rfl rfl (kbm Hn9.out) (by simp [vS, Value.oneCell']) (by unfold maxLen; omega) (by omega) HK9.out.size ?_
                 intro v3 W10 ho3 hg3 _
                 have ho9 := kaf hrow (fun q _ hq => HW9.out.block q hq)
                 have hown := fun q hq => (ho9.lt q hq).1
                 have HK10 := hdd (HK9.out.grown hg3 (fun q hq => .inl (hown q hq)))
                 have Hb10 := hdd ((hg3.block _ (kac Hb9.out) (fun e => by have := hown _ e.symm; omega)).trans Hb9.out)
                 have HO10 := hdd ((kes HW9.out).trans (kgt ho9 hg3))
                 have HR10 := hdd ho3
                 clear ho3 hg3 ho9 hown
                 refine hK.out _ _ (HS.out _ HK10.out) (fun _ => ?_)
                 clear hK K
                 try simp only [Act.put, List.setIfInBounds_toArray]
                 refine wpAnyH_ready (rs := [11]) (by kernel_rfl) (by simp) ?_
                 refine AllReadyH.cons rfl (fun K hK => ?_) ?_
                 · refine kba rfl 39 _ _ rfl w2.heap.size 0 rfl v3 rfl (khu HR10.out) (kfn HR10.out) _ _ Hb10.out (by simp) (by kernel_rfl) ?_
                   intro W11 hb11 hk11
                   have HK11 := hdd (HK10.out.trans (hk11.mono (fun _ _ e => e)))
                   refine hK.out _ _ (HS.out _ HK11.out) (fun _ => ?_)
                   clear hK K
                   try simp only [Act.put]
                   refine wpAnyH_done (by kernel_rfl) ?_ _
                   exact HEnd.out v3 W10 W11 HK11.out HO10.out Hb10.out HR10.out hb11 hk11
                 exact AllReadyH.nil
               exact AllReadyH.nil
             exact AllReadyH.nil
           refine AllReadyH.cons rfl (fun K hK => ?_) ?_
           · go_simp
             obtain ⟨W9, h9⟩ : ∃ W9, W8.alloc (.cells #[.string (B (kep x0 x1))] 9) = W9 := ⟨_, rfl⟩
             rw [h9]
             have HW9 := hdd (show Below W.heap.size W W9 from h9 ▸ HW8.out.alloc HW8.out.size _)
             have HK9 := hdd (hK0.trans (ka1.of_below HW9.out))
             have Hb9 := hdd (kad HW9.out (kac hbx) hbx)
             have Hn9 := hdd (show W9.heap[W8.heap.size]? = some (.cells #[.string (B (kep x0 x1))] 9) from h9 ▸ kak _ _)
             clear h9
             refine hK.out _ _ (HS.out _ HK9.out) (fun _ => ?_)
             clear hK K
             try simp only [Act.put, s1, s2, s3]
             refine wpAnyH_ready (rs := [0]) (by kernel_rfl) (by simp) ?_
             refine AllReadyH.cons rfl (fun K hK => ?_) ?_
             · have hcb := kab Hb9.out 0
               go_simp
               clear hcb
               refine hK.out _ _ (HS.out _ HK9.out) (fun _ => ?_)
               clear hK K
               try simp only [Act.put, s1, s2, s3]
               refine wpAnyH_ready (rs := [10]) (by kernel_rfl) (by simp) ?_
               refine AllReadyH.cons rfl (fun K hK => ?_) ?_
               · refine kck rfl _ _ 39 rfl W0.heap.size 9 i0 (.string ⟨#[]⟩) 1 16 Tryz.underlying39 Hi.out Hz0.out Hz1.out Hz2.out rfl (by decide) v pre.length ((kc6 (kd8 seed b h j) pre).map vS) rfl (kaf hrow (fun q _ hq => HW9.out.block q hq)) ⟨W8.heap.size, 0, none⟩ 1 1 [vS (kep x0 x1)] rfl rfl (kbm Hn9.out) (by simp [vS, Value.oneCell']) (by unfold maxLen; omega) (by omega) HK9.out.size ?_
                 intro v3 W10 ho3 hg3 _
                 have ho9 := kaf hrow (fun q _ hq => HW9.out.block q hq)
                 have hown := fun q hq => (ho9.lt q hq).1
                 have HK10 := hdd (HK9.out.grown hg3 (fun q hq => .inl (hown q hq)))
                 have Hb10 := hdd ((hg3.block _ (kac Hb9.out) (fun e => by have := hown _ e.symm; omega)).trans Hb9.out)
                 have HO10 := hdd ((kes HW9.out).trans (kgt ho9 hg3))
                 have HR10 := hdd ho3
                 clear ho3 hg3 ho9 hown
                 refine hK.out _ _ (HS.out _ HK10.out) (fun _ => ?_)
                 clear hK K
                 try simp only [Act.put, List.setIfInBounds_toArray]
                 refine wpAnyH_ready (rs := [11]) (by kernel_rfl) (by simp) ?_
                 refine AllReadyH.cons rfl (fun K hK => ?_) ?_
                 · refine kba rfl 39 _ _ rfl w2.heap.size 0 rfl v3 rfl (khu HR10.out) (kfn HR10.out) _ _ Hb10.out (by simp) (by kernel_rfl) ?_
                   intro W11 hb11 hk11
                   have HK11 := hdd (HK10.out.trans (hk11.mono (fun _ _ e => e)))
                   refine hK.out _ _ (HS.out _ HK11.out) (fun _ => ?_)
                   clear hK K
                   try simp only [Act.put]
                   refine wpAnyH_done (by kernel_rfl) ?_ _
                   exact HEnd.out v3 W10 W11 HK11.out HO10.out Hb10.out HR10.out hb11 hk11
                 exact AllReadyH.nil
               exact AllReadyH.nil
             exact AllReadyH.nil
           exact AllReadyH.nil
         exact AllReadyH.nil
       exact AllReadyH.nil
       -- END
      case done =>
       rintro D ys W hD hys ⟨hK0, v, hbx, hrow⟩ hKD
       have hys2 : ys.length = M := by have := congrArg List.length hys; rw [List.length_map, kn2] at this; exact this
       have hrs : kc6 (kd8 seed b h j) ys = kd8 seed b h (j + 1) := by
        rw [koj _ _ _ hys]
        show _ = ko5 (kd8 seed b h j)
        rw [ko5, Hm.out, HMM.out, show 2 * M / 2 = M by omega]
       have hlr : (kd8 seed b h (j + 1)).length = M := by rw [← hrs]; simp [kc6, hys2]
       rw [hys2, hrs] at hrow
       have hA0 : w2.heap.size < W0.heap.size := by have := HWz.out; omega
       have hbW : Below w2.heap.size w2 W := HWB.out.trans (hK0.below (Nat.le_of_lt hA0) (fun k hk e => by have : k = w2.heap.size := e; omega))
       obtain ⟨ra, rc2, hv⟩ := kah hrow
       subst hv
       have hcb := kab hbx 0
       have HBW := hdd hbW
       have Hlr := hdd hlr
       have Hrow := hdd hrow
       have HKD := hdd hKD
       have HDD := hdd hD
       clear hys hys2 hrs hrow hbW hlr hKD hD hbx hK0
       dsimp only
       go_wp2_with (first
        | (at_builtin
           go_loud (
           refine wpList_append_own _ rfl _ _ 190 rfl (w.heap.size + 1) 39 i1 (.slice none 0 0) 1 24 Tryz.underlying190 Hi1.out Hy0.out Hy1.out Hy2.out rfl (by decide) _ (j + 1) ((List.range (j + 1)).map vs) rfl ((ki7 HO.out (fun q hq => HBW.out.block q (kkj HO.out hq))).alloc _) ⟨W.heap.size, 0, none⟩ 1 1 [.slice ra M rc2] rfl rfl (kbm (kak _ _)) (by simp [Value.oneCell']) (by unfold maxLen; omega) (by omega) (by have := HB2.out.size; have := HBW.out.size; have := HWz.out; simp; omega) ?_
           intro v3 w3 ho3 hg3 _
           have HO3 := hdd ho3
           have HG3 := hdd (show (W.alloc (.cells #[.slice ra M rc2] 39)).grownBy w3 ov.ownBlock from hg3)
           clear ho3 hg3)))
       have hOW := ki7 HO.out (fun q hq => HBW.out.block q (kkj HO.out hq))
       have hz0 := HWz.out
       have hz1 := HB2.out.size
       have hz2 := HBW.out.size
       have hzD := kyd HKD.out
       have hkeep : ∀ q, q < W.heap.size → ov.ownBlock ≠ some q → w3.heap[q]? = W.heap[q]? := fun q hq hne => (HG3.out.block q (by simp; omega) (fun e => hne e.symm)).trans (Below.heap_alloc _ _ _ hq)
       have hne9 : ∀ {base n v xs}, W.ownsRow base 9 1 v n xs → ∀ q, v.ownBlock = some q → w3.heap[q]? = W.heap[q]? := by
        intro base n v xs ho q hq
        refine hkeep q (kkj ho hq) fun e => ?_
        obtain ⟨_, c1, h1⟩ := kdw ho hq
        obtain ⟨_, c2, h2⟩ := kdw hOW e
        rw [h1] at h2
        simp at h2
       have hneD : ∀ (E : Nat) cs, W.heap[E]? = some (Obj.deferred cs) → w3.heap[E]? = W.heap[E]? := by
        intro E cs hE
        refine hkeep E (kyd hE) fun e => ?_
        obtain ⟨_, c2, h2⟩ := kdw hOW e
        rw [hE] at h2
        cases h2
       have hmW : ∀ E ∈ Ds, W.heap[E]? = some (.deferred (some [])) := fun E hE => (HBW.out.block E (kyd (HM.out.2 E hE))).trans (HM.out.2 E hE)
       obtain ⟨vt, hv1, hv2⟩ : ∃ vt : Nat → Value, vt (j + 1) = .slice ra M rc2 ∧ ∀ i, i ≤ j → vt i = vs i :=
        ⟨fun i => if i = j + 1 then .slice ra M rc2 else vs i, if_pos rfl, fun i hi => if_neg (by omega)⟩
       rw [← hv1]
       refine ⟨⟨j + 1, vt, v3, D :: Ds, _, _, _, _, _, _, _, _, _, _, _, _, _, _, _, _, _, _, _, _, _, _, _, _, _, _, _, _, _, _, _, _, _, _, _, _, _, _, _, _, _, _, _, _, _, by omega, ?_, ?_, ⟨?_, ?_⟩, ?_, ?_, rfl⟩, ?_⟩
       · intro i hi
         by_cases he : i = j + 1
         · subst he
           rw [Hlr.out, hv1]
           exact ki7 (kan Hrow.out (by omega)) (fun q hq => hne9 Hrow.out q hq)
         · rw [hv2 i (by omega)]
           have ho := ki7 (HV.out i (by omega)) (fun q hq => HBW.out.block q (kkj (HV.out i (by omega)) hq))
           exact ki7 ho (fun q hq => hne9 ho q hq)
       · have := HO3.out
         rw [List.range_succ, List.map_append]
         have e : (List.range (j + 1)).map vt = (List.range (j + 1)).map vs := List.map_congr_left fun i hi => hv2 i (by have := List.mem_range.1 hi; omega)
         rw [e]
         simpa [hv1] using this
       · rw [List.nodup_cons]
         exact ⟨fun hm => by have := kyd (HM.out.2 D hm); have := HDD.out; omega, HM.out.1⟩
       · intro E hE
         rcases List.mem_cons.1 hE with rfl | hE
         · exact (hneD _ _ HKD.out).trans HKD.out
         · exact (hneD _ _ (hmW E hE)).trans (hmW E hE)
       · intro E hE
         rcases List.mem_cons.1 hE with rfl | hE
         · have := HDD.out; omega
         · exact HD.out E hE
       · refine ((HB2.out.trans (HBW.out.mono hz1)).alloc (by omega) _).grown HG3.out (by simp; omega) (fun q hq => ?_)
         have := (kdw hOW hq).1
         omega
       · rw [hv1]
         show M < m
         have := HMM.out
         omega
    · obtain rfl : j = h := by omega
      have hm1 : m = 1 := by rw [hlen]; simp
      subst hm1
      obtain ⟨ra, rc, hvj⟩ := kah HVj.out
      obtain ⟨oa, oc, rfl⟩ := kah HO.out
      rw [hvj]
      clear hlen hvj
      go_wp2
      refine ki0 Ds w2 HM.out fun w4 hw4 => ?_
      refine ⟨_, results_tmp rfl _ _ _, _, rfl, ?_, ?_⟩
      · obtain ⟨h1, h2, h3, h4, h5⟩ := hw4
        have hdef : ∀ q cs T fr, w2.heap[q]? = some (.cells cs T fr) → q ∉ Ds := by
         intro q cs T fr hq hm
         rw [HM.out.2 q hm] at hq
         cases hq
        have hO4 := ki7 HO.out (fun q hq => by obtain ⟨_, cs, hc⟩ := kdw HO.out hq; exact h5 q (kac hc) (hdef _ _ _ _ hc))
        have hV4 := fun i hi => ki7 (HV.out i hi) (fun q hq => by obtain ⟨_, cs, hc⟩ := kdw (HV.out i hi) hq; exact h5 q (kac hc) (hdef _ _ _ _ hc))
        refine ⟨(List.range (j + 1)).map vs, by simp, by rw [List.length_map, List.length_range]; exact kan hO4 (Nat.le_succ _), fun i hi => ?_⟩
        rw [List.length_map, List.length_range] at hi
        have e1 : ((List.range (j + 1)).map vs).getD i undef = vs i := by simp [List.getD_eq_getElem?_getD, hi]
        have e2 : ((List.range (j + 1)).map (kd8 seed b j)).getD i [] = kd8 seed b j i := by simp [List.getD_eq_getElem?_getD, hi]
        rw [e1, e2]
        exact kan (hV4 i (by omega)) (Nat.le_succ _)
      · obtain ⟨h1, h2, h3, h4, h5⟩ := hw4
        have hB := HB2.out
        exact ⟨h1.trans hB.os, h2.trans hB.tape, h3.trans hB.output, Nat.le_trans hB.size h4, fun k hk => (h5 k (Nat.lt_of_lt_of_le hk hB.size) (fun hm => by have := HD.out k hm; omega)).trans (hB.block k hk)⟩
end Go.Proofs.YtknpbekoenbphaaGreatDoor
