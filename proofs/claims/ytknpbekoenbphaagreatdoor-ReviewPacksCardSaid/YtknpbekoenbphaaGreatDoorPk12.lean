/- Parts of the proofs: WkRv4, WkRv5. No condition beyond those at each theorem. -/
import Derived.Test.YtknpbekoenbphaaGreatDoorPk11
set_option linter.unusedVariables false
set_option linter.unusedSimpArgs false
set_option maxHeartbeats 16000000
set_option maxRecDepth 100000
namespace Go.Proofs.YtknpbekoenbphaaGreatDoor
open Go Go.RowKit Licit
theorem kvf {B : Nat} {w w' : World} (h : Below B w w') : Below B w w'.drew := ⟨h.os, h.tape, h.output, h.size, h.block⟩
theorem kf4 (n : Int) (w : World) (ht : Tab w) : kcg 83 #[.int .i64 n] w (.string (B (num n))) := by
 go_enter Tryz.func83, Tryz.ntmps83
 go_wp2_with (go_at_call 152; refine (khz n _ ht).mono ?_; rintro e w1 ⟨rfl, hb⟩)
 go_ret
 exact ⟨rfl, hb⟩
theorem ko7 (x : Bs) (w : World) (hx : x.length ≤ maxLen) (ht : Tab w) : kcg 84 #[.string (B x)] w (.string (B (Rv.tx x))) := by
 go_enter Tryz.func84, Tryz.ntmps84
 go_wp2_with (go_at_call 153; refine (kg7 x _ hx ht).mono ?_; rintro e w1 ⟨rfl, hb⟩)
 go_ret
 exact ⟨rfl, hb⟩
theorem kjo (v : Value) (xs : List Bs) (w : World) (h : IsSl v (xs.map vS) w) (hl : ∀ x ∈ xs, x.length ≤ maxLen) (ht : Tab w) : kcg 85 #[v] w (.string (B (Rv.txs xs))) := by
 go_enter Tryz.func85, Tryz.ntmps85
 go_wp2_with (go_at_call 154; refine (kd2 v xs _ h hl ht).mono ?_; rintro e w1 ⟨rfl, hb⟩)
 go_ret
 exact ⟨rfl, hb⟩
theorem knk {α : Type} (one : α → Bs × Int) (h : ∀ x, (one x).1.length ≤ 65600) : ∀ (l : List α) (acc : Bs), (klk one l acc).1.length ≤ acc.length + l.length * 65600
 | [], acc => by simp [klk]
 | x :: l, acc => by
   unfold klk
   split
   · simp
   · have := knk one h l (acc ++ (one x).1)
     have := h x
     rw [List.length_append] at *
     simp only [List.length_cons]
     omega
theorem klu (s : Bs) : (kar s).1.length ≤ 65600 := by
 unfold kar
 split
 · simp
 · have hd := kdr (n := (s.length : Int)) (by omega) (by omega)
   rw [kbt, Int.toNat_natCast] at hd
   simp only [List.length_append, List.length_singleton]
   omega
theorem kfb (s : Bs) : (B (Rv.tx s)).size ≤ 70000000 := by
 have := klu s
 show (kar s).1.length ≤ _
 omega
theorem kga (l : List Bs) : (B (Rv.txs l)).size ≤ 70000000 := by
 show (ka7 kar l).1.length ≤ _
 unfold ka7
 split
 · simp
 · have := knk kar klu l (Lib.decDigits l.length ++ [59])
   have hd := kdr (n := (l.length : Int)) (by omega) (by omega)
   rw [kbt, Int.toNat_natCast] at hd
   rw [List.length_append, List.length_singleton] at this
   omega
theorem kcd (n : Int) : (B (num n)).size ≤ 70000000 := by
 show (ke2 n).1.length ≤ _
 unfold ke2
 split
 · simp
 · have hd := kdr (n := n) (by omega) (by omega)
   rw [kbt] at hd
   simp only [List.length_append, List.length_singleton]
   omega
theorem kh1 (e : Rv.Ev) : (Rv.encV e).length ≤ 1000000000 := by
 have h1 := fun n => kcd n
 have h2 := fun s => kfb s
 have h3 := fun l => kga l
 simp only [kbt] at h1 h2 h3
 unfold Rv.encV
 simp only [List.length_append]
 have a1 := h1 e.kind; have a2 := h1 e.number; have a3 := h1 e.bits; have a4 := h1 e.height; have a5 := h1 e.till
 have b1 := h2 e.author; have b2 := h2 e.root; have b3 := h2 e.pkg; have b4 := h2 e.digest; have b5 := h2 e.question; have b6 := h2 e.scope; have b7 := h2 e.answer
 have c1 := h3 e.names; have c2 := h3 e.targets
 omega
def hdV (e : Rv.Ev) : Bs := num e.kind ++ Rv.tx e.author ++ num e.number ++ Rv.txs e.names ++ Rv.tx e.root ++ num e.bits ++ num e.height
def l5 (e : Rv.Ev) : List Bs := [e.pkg, e.digest, e.question, e.scope, e.answer]
def kmi (e : Rv.Ev) (k : Nat) : Bs := hdV e ++ (((l5 e).take k).map Rv.tx).flatten
theorem knn (e : Rv.Ev) {k : Nat} (hk : k < 5) : kmi e (k + 1) = kmi e k ++ Rv.tx ((l5 e).getD k []) := by
 unfold kmi
 rw [List.take_succ_eq_append_getElem (show k < (l5 e).length from hk), List.map_append, List.flatten_append, List.getD_eq_getElem?_getD, List.getElem?_eq_getElem (show k < (l5 e).length from hk)]
 simp
theorem kmp (e : Rv.Ev) (k : Nat) (hk : k ≤ 5) : (B (kmi e k)).size ≤ 900000000 := by
 have h0 : (hdV e).length ≤ 490000000 := by
  have h1 := fun n => kcd n
  have h2 := fun s => kfb s
  have h3 := fun l => kga l
  simp only [kbt] at h1 h2 h3
  unfold hdV
  simp only [List.length_append]
  have a1 := h1 e.kind; have a2 := h1 e.number; have a3 := h1 e.bits; have a4 := h1 e.height
  have b1 := h2 e.author; have b2 := h2 e.root; have c1 := h3 e.names
  omega
 have : ∀ j, j ≤ 5 → (kmi e j).length ≤ 490000000 + j * 70000000 := by
  intro j
  induction j with
  | zero => intro _; simpa [kmi] using h0
  | succ j ih =>
    intro hj
    rw [knn e (by omega), List.length_append]
    have := ih (by omega)
    have h2 := kfb ((l5 e).getD j [])
    rw [kbt] at h2
    omega
 rw [kbt]
 have := this k hk
 omega
theorem kws (e : Rv.Ev) : kmi e 5 ++ num e.till ++ Rv.txs e.targets = Rv.encV e := by
 unfold kmi hdV l5 Rv.encV
 simp
theorem ktn (e : Rv.Ev) (na ta sa ha ra : Option Addr) (nc tc sc hc rc : Nat) (w : World) (h : kc1 (evW e na nc ta tc sa sc ha hc ra rc) e w) (hv : Rv.validB e = false) :
 Calls Tryz.prog 35 #[evW e na nc ta tc sa sc ha hc ra rc] w fun en w' => en = .returned (.tuple #[.string ⟨#[]⟩, .int .i64 1]) ∧ Below w.heap.size w w' := by
 have hb1 : Below w.heap.size w (w.alloc (.cells (evS e na nc ta tc sa sc ha hc ra rc) 45)) := (Below.refl _ _).alloc (Nat.le_refl _) _
 have hf := kf8 _ e _ (h.below hb1)
 rw [show Rv.validE e = 1 by unfold Rv.validE; rw [hv]; rfl] at hf
 have QF := hdd hf
 have HB1 := hdd hb1
 have HE := hdd (kak w (.cells (evS e na nc ta tc sa sc ha hc ra rc) 45))
 clear hf h hv hb1
 go_enter Tryz.func35, Tryz.ntmps35
 go_wp2_with (first | (refine wpList_load_row rfl 45 _ rfl w.heap.size rfl 45 (evS e na nc ta tc sa sc ha hc ra rc) (0, 0) _ HE.out rfl rfl (by kernel_rfl) ?_) | fail)
 refine (QF.out).mono ?_
 rintro en w1 ⟨rfl, hb⟩
 have HB2 := hdd (HB1.out.next hb)
 clear hb
 go_wp2
 go_ret2
 exact ⟨rfl, HB2.out⟩
theorem kuu (e : Rv.Ev) (na ta sa ha ra : Option Addr) (nc tc sc hc rc : Nat) (w : World) (h : kc1 (evW e na nc ta tc sa sc ha hc ra rc) e w) (hv : Rv.validB e = true) (ht : Tab w) :
 Calls Tryz.prog 35 #[evW e na nc ta tc sa sc ha hc ra rc] w fun en w' => en = .returned (.tuple #[.string (B (Rv.encV e)), .int .i64 0]) ∧ Below w.heap.size w w' := by
 have hb1 : Below w.heap.size w (w.alloc (.cells (evS e na nc ta tc sa sc ha hc ra rc) 45)) := (Below.refl _ _).alloc (Nat.le_refl _) _
 have hf := kf8 _ e _ (h.below hb1)
 rw [show Rv.validE e = 0 by unfold Rv.validE; rw [hv]; rfl] at hf
 have QF := hdd hf
 have HB1 := hdd hb1
 have HE := hdd (kak w (.cells (evS e na nc ta tc sa sc ha hc ra rc) 45))
 obtain ⟨ho, na', nc', ta', tc', sa', sc', ha', hc', ra', rc', hq, hN, hT, -⟩ := h
 simp only [Value.agg.injEq, Array.mk.injEq, List.cons.injEq, Value.slice.injEq, true_and, and_true] at hq
 obtain ⟨⟨rfl, rfl⟩, ⟨rfl, rfl⟩, -⟩ := hq
 have hm : ∀ n : Nat, n ≤ 1000000000 → n ≤ maxLen := fun n h => by unfold maxLen; omega
 have HN := hdd hN
 have HT := hdd hT
 have HNl := hdd (fun x hx => hm _ (ho.names x hx))
 have HTl := hdd (fun x hx => hm _ (ho.targets x hx))
 have hauthor := hm _ ho.author
 have hroot := hm _ ho.root
 have h5 : ∀ x ∈ l5 e, x.length ≤ maxLen := by
  intro x hx
  simp only [l5, List.mem_cons, List.not_mem_nil, or_false] at hx
  rcases hx with rfl | rfl | rfl | rfl | rfl
  · exact hm _ ho.pkg
  · exact hm _ ho.digest
  · exact hm _ ho.question
  · exact hm _ ho.scope
  · exact hm _ ho.answer
 have H5 := hdd h5
 have HTab := hdd ht
 have hsk := kcd e.kind
 have hsn := kcd e.number
 have hsb := kcd e.bits
 have hsh := kcd e.height
 have hst := kcd e.till
 have hsa := kfb e.author
 have hsr := kfb e.root
 have hsx := kga e.names
 have hsy := kga e.targets
 clear hf hv hb1 hN hT ho hm h5 ht
 go_enter Tryz.func35, Tryz.ntmps35
 go_wp2_with (first | (refine wpList_load_row rfl 45 _ rfl w.heap.size rfl 45 (evS e na nc ta tc sa sc ha hc ra rc) (0, 0) _ HE.out rfl rfl (by kernel_rfl) ?_) | fail)
 refine (QF.out).mono ?_
 rintro en w1 ⟨rfl, hb⟩
 have HB2 := hdd (HB1.out.next hb)
 have HW1 := hdd (kad hb (by simp) HE.out)
 clear hb QF HE HB1
 have hc1 : ¬ 9223372036854775807 < (B (num e.kind)).size + (B (Rv.tx e.author)).size := by omega
 have hc2 : ¬ 9223372036854775807 < (B (num e.kind)).size + (B (Rv.tx e.author)).size + (B (num e.number)).size := by omega
 have hc3 : ¬ 9223372036854775807 < (B (num e.kind)).size + (B (Rv.tx e.author)).size + (B (num e.number)).size + (B (Rv.txs e.names)).size := by omega
 have hc4 : ¬ 9223372036854775807 < (B (num e.kind)).size + (B (Rv.tx e.author)).size + (B (num e.number)).size + (B (Rv.txs e.names)).size + (B (Rv.tx e.root)).size := by omega
 have hc5 : ¬ 9223372036854775807 < (B (num e.kind)).size + (B (Rv.tx e.author)).size + (B (num e.number)).size + (B (Rv.txs e.names)).size + (B (Rv.tx e.root)).size + (B (num e.bits)).size := by omega
 have hc6 : ¬ 9223372036854775807 < (B (num e.kind)).size + (B (Rv.tx e.author)).size + (B (num e.number)).size + (B (Rv.txs e.names)).size + (B (Rv.tx e.root)).size + (B (num e.bits)).size + (B (num e.height)).size := by omega
 go_upto_region 3 with fail
 have HS := hdd (fun W (hb : Below w1.heap.size w1 W) => by
  obtain ⟨e0, e1, e2, e3, e4, e5, e6, -⟩ := ka6 (kad hb (kac HW1.out) HW1.out)
  exact And.intro e0 (And.intro e1 (And.intro e2 (And.intro e3 (And.intro e4 (And.intro e5 e6))))))
 have HF := hdd (kvf (Below.refl w1.heap.size w1))
 have HBW := hdd (fun W (hb : Below w1.heap.size w1 W) => HB2.out.trans (hb.mono HB2.out.size))
 have HTW := hdd (fun W (hb : Below w1.heap.size w1 W) => HTab.out.same (HBW.out W hb))
 refine kat (S := fun W : World => W.cell? ⟨w.heap.size, 0, none⟩ = some (.int .i64 e.kind) ∧ W.cell? ⟨w.heap.size, 1, none⟩ = some (.string (B e.author)) ∧ W.cell? ⟨w.heap.size, 2, none⟩ = some (.int .i64 e.number) ∧ W.cell? ⟨w.heap.size, 3, none⟩ = some (.slice na e.names.length nc) ∧ W.cell? ⟨w.heap.size, 4, none⟩ = some (.string (B e.root)) ∧ W.cell? ⟨w.heap.size, 5, none⟩ = some (.int .i64 e.bits) ∧ W.cell? ⟨w.heap.size, 6, none⟩ = some (.int .i64 e.height)) (by kernel_rfl) (HS.out _ HF.out) (fun hHeld => ?_)
 simp only [List.toList_toArray, len, kbc]
 iterate 2 (refine tk 0 rfl rfl rfl (by kernel_rfl) (fun _ _ _ h => h) (by intro W hW; (try dsimp only at hW); go_simp <;> with_reducible rfl) (by assumption) ?_; simp only [Act.put, s1, s2, s3])
 iterate 2 (refine tk 3 rfl rfl rfl (by kernel_rfl) (fun _ _ _ h => h) (by intro W hW; (try dsimp only at hW); go_simp <;> with_reducible rfl) (by assumption) ?_; simp only [Act.put, s1, s2, s3])
 iterate 2 (refine tk 7 rfl rfl rfl (by kernel_rfl) (fun _ _ _ h => h) (by intro W hW; (try dsimp only at hW); go_simp <;> with_reducible rfl) (by assumption) ?_; simp only [Act.put, s1, s2, s3])
 iterate 2 (refine tk 11 rfl rfl rfl (by kernel_rfl) (fun _ _ _ h => h) (by intro W hW; (try dsimp only at hW); go_simp <;> with_reducible rfl) (by assumption) ?_; simp only [Act.put, s1, s2, s3])
 iterate 2 (refine tk 15 rfl rfl rfl (by kernel_rfl) (fun _ _ _ h => h) (by intro W hW; (try dsimp only at hW); go_simp <;> with_reducible rfl) (by assumption) ?_; simp only [Act.put, s1, s2, s3])
 iterate 3 (refine tk 19 rfl rfl rfl (by kernel_rfl) (fun _ _ _ h => h) (by intro W hW; (try dsimp only at hW); go_simp <;> with_reducible rfl) (by assumption) ?_; simp only [Act.put, s1, s2, s3])
 iterate 3 (refine tk 24 rfl rfl rfl (by kernel_rfl) (fun _ _ _ h => h) (by intro W hW; (try dsimp only at hW); go_simp <;> with_reducible rfl) (by assumption) ?_; simp only [Act.put, s1, s2, s3])
 refine wpAnyH_ready (rs := [2]) (by kernel_rfl) (by simp) ?_
 refine ar1 rfl (fun K hK => ?_)
 go_simp
 refine (kf4 e.kind _ (HTW.out _ HF.out)).mono ?_
 rintro en u ⟨rfl, hb⟩
 have HFn := hdd (HF.out.trans (hb.mono HF.out.size))
 refine hK.out _ _ (HS.out _ HFn.out) (fun hHeld => ?_)
 clear hK K hb HF
 have HF := HFn
 clear HFn
 try simp only [Act.put, s1, s2, s3]
 refine wpAnyH_ready (rs := [5]) (by kernel_rfl) (by simp) ?_
 refine ar1 rfl (fun K hK => ?_)
 go_simp
 refine (ko7 e.author _ hauthor (HTW.out _ HF.out)).mono ?_
 rintro en u ⟨rfl, hb⟩
 have HFn := hdd (HF.out.trans (hb.mono HF.out.size))
 refine hK.out _ _ (HS.out _ HFn.out) (fun hHeld => ?_)
 clear hK K hb HF
 have HF := HFn
 clear HFn
 try simp only [Act.put, s1, s2, s3]
 (refine tk 6 rfl rfl rfl (by kernel_rfl) (fun _ _ _ h => h) (by intro W hW; (try dsimp only at hW); go_simp <;> with_reducible rfl) (by assumption) ?_; simp only [Act.put, s1, s2, s3])
 refine wpAnyH_ready (rs := [9]) (by kernel_rfl) (by simp) ?_
 refine ar1 rfl (fun K hK => ?_)
 go_simp
 refine (kf4 e.number _ (HTW.out _ HF.out)).mono ?_
 rintro en u ⟨rfl, hb⟩
 have HFn := hdd (HF.out.trans (hb.mono HF.out.size))
 refine hK.out _ _ (HS.out _ HFn.out) (fun hHeld => ?_)
 clear hK K hb HF
 have HF := HFn
 clear HFn
 try simp only [Act.put, s1, s2, s3]
 (refine tk 10 rfl rfl rfl (by kernel_rfl) (fun _ _ _ h => h) (by intro W hW; (try dsimp only at hW); go_simp <;> with_reducible rfl) (by assumption) ?_; simp only [Act.put, s1, s2, s3])
 refine wpAnyH_ready (rs := [13]) (by kernel_rfl) (by simp) ?_
 refine ar1 rfl (fun K hK => ?_)
 go_simp
 refine (kjo _ e.names _ (HN.out.below (HBW.out _ HF.out)) HNl.out (HTW.out _ HF.out)).mono ?_
 rintro en u ⟨rfl, hb⟩
 have HFn := hdd (HF.out.trans (hb.mono HF.out.size))
 refine hK.out _ _ (HS.out _ HFn.out) (fun hHeld => ?_)
 clear hK K hb HF
 have HF := HFn
 clear HFn
 try simp only [Act.put, s1, s2, s3]
 (refine tk 14 rfl rfl rfl (by kernel_rfl) (fun _ _ _ h => h) (by intro W hW; (try dsimp only at hW); go_simp <;> with_reducible rfl) (by assumption) ?_; simp only [Act.put, s1, s2, s3])
 refine wpAnyH_ready (rs := [17]) (by kernel_rfl) (by simp) ?_
 refine ar1 rfl (fun K hK => ?_)
 go_simp
 refine (ko7 e.root _ hroot (HTW.out _ HF.out)).mono ?_
 rintro en u ⟨rfl, hb⟩
 have HFn := hdd (HF.out.trans (hb.mono HF.out.size))
 refine hK.out _ _ (HS.out _ HFn.out) (fun hHeld => ?_)
 clear hK K hb HF
 have HF := HFn
 clear HFn
 try simp only [Act.put, s1, s2, s3]
 (refine tk 18 rfl rfl rfl (by kernel_rfl) (fun _ _ _ h => h) (by intro W hW; (try dsimp only at hW); go_simp <;> with_reducible rfl) (by assumption) ?_; simp only [Act.put, s1, s2, s3])
 refine wpAnyH_ready (rs := [22]) (by kernel_rfl) (by simp) ?_
 refine ar1 rfl (fun K hK => ?_)
 go_simp
 refine (kf4 e.bits _ (HTW.out _ HF.out)).mono ?_
 rintro en u ⟨rfl, hb⟩
 have HFn := hdd (HF.out.trans (hb.mono HF.out.size))
 refine hK.out _ _ (HS.out _ HFn.out) (fun hHeld => ?_)
 clear hK K hb HF
 have HF := HFn
 clear HFn
 try simp only [Act.put, s1, s2, s3]
 (refine tk 23 rfl rfl rfl (by kernel_rfl) (fun _ _ _ h => h) (by intro W hW; (try dsimp only at hW); go_simp <;> with_reducible rfl) (by assumption) ?_; simp only [Act.put, s1, s2, s3])
 refine wpAnyH_ready (rs := [27]) (by kernel_rfl) (by simp) ?_
 refine ar1 rfl (fun K hK => ?_)
 go_simp
 refine (kf4 e.height _ (HTW.out _ HF.out)).mono ?_
 rintro en u ⟨rfl, hb⟩
 have HFn := hdd (HF.out.trans (hb.mono HF.out.size))
 refine hK.out _ _ (HS.out _ HFn.out) (fun hHeld => ?_)
 clear hK K hb HF
 have HF := HFn
 clear HFn
 try simp only [Act.put, s1, s2, s3]
 (refine tk 28 rfl rfl rfl (by kernel_rfl) (fun _ _ _ h => h) (by intro W hW; (try dsimp only at hW); go_simp <;> with_reducible rfl) (by assumption) ?_; simp only [Act.put, s1, s2, s3])
 (refine tk 29 rfl rfl rfl (by kernel_rfl) (fun _ _ _ h => h) (by intro W hW; (try dsimp only at hW); go_simp <;> with_reducible rfl) (by assumption) ?_; simp only [Act.put, s1, s2, s3])
 refine wpAnyH_done (by kernel_rfl) ?_ _
 simp only [Exit.then]
 have hh : B (num e.kind) ++ B (Rv.tx e.author) ++ B (num e.number) ++ B (Rv.txs e.names) ++ B (Rv.tx e.root) ++ B (num e.bits) ++ B (num e.height) = B (kmi e 0) := by
  simp only [ka9]
  unfold kmi hdV
  simp
 rw [hh]
 obtain ⟨-, -, -, -, -, -, -, e7, e8, e9, e10, e11, -⟩ := ka6 (kad HF.out (kac HW1.out) HW1.out)
 clear hh hc1 hc2 hc3 hc4 hc5 hc6 hsk hsn hsb hsh hsa hsr hsx hHeld HS
 have HF4 := hdd (HF.out.trans (((Below.refl u.heap.size u).alloc (Nat.le_refl _) (.cells #[.string (B e.pkg), .string (B e.digest), .string (B e.question), .string (B e.scope), .string (B e.answer)] 9)).mono HF.out.size))
 have HA := hdd (kak u (.cells #[.string (B e.pkg), .string (B e.digest), .string (B e.question), .string (B e.scope), .string (B e.answer)] 9))
 have HU := hdd HF.out.size
 go_wp2
 go_loopw [4, 6, 51] (fun o _ n wr => ∃ k : Nat, k ≤ 5 ∧ n = .int .i64 k ∧ o = .string (B (kmi e k)) ∧ Below (u.heap.size + 1) (u.alloc (.cells #[.string (B e.pkg), .string (B e.digest), .string (B e.question), .string (B e.scope), .string (B e.answer)] 9)) wr) (fun _ _ n _ => 5 - (intOf n).toNat)
 case atStart => exact ⟨0, by omega, rfl, rfl, Below.refl _ _⟩
 case round =>
  obtain ⟨k, hk, rfl, rfl, hB⟩ := hrel
  have HB := hdd hB
  have HFr := hdd (HF4.out.trans (hB.mono (by have := HU.out; omega)))
  have hA := kad hB (by simp) HA.out
  have HAr := hdd hA
  clear hB hA
  by_cases hlt : k < 5
  · have hcell : wr.cell? ⟨u.heap.size, 0 + k, none⟩ = some (.string (B ((l5 e).getD k []))) := by
     rw [kab HAr.out, Nat.zero_add]
     match k, hlt with
     | 0, _ => rfl
     | 1, _ => rfl
     | 2, _ => rfl
     | 3, _ => rfl
     | 4, _ => rfl
    have hcell' : wr.cell? ⟨u.heap.size, k, none⟩ = some (.string (B ((l5 e).getD k []))) := by rw [← hcell, Nat.zero_add]
    have hmx : ((l5 e).getD k []).length ≤ maxLen := H5.out _ (by
     rw [List.getD_eq_getElem?_getD, List.getElem?_eq_getElem (show k < (l5 e).length from hlt)]
     exact List.getElem_mem _)
    have HST := hdd (knn e hlt)
    have hl1 := kmp e k (by omega)
    have hl2 := kfb ((l5 e).getD k [])
    generalize (l5 e).getD k [] = x at *
    go_wp2_with (go_at_call 84; refine (ko7 x _ hmx (HTW.out _ HFr.out)).mono ?_; rintro en w3 ⟨rfl, hb⟩)
    have HBn := hdd (HB.out.trans (hb.mono (by have := HB.out.size; simpa using this)))
    clear hb
    go_roundw
    case rel => exact ⟨k + 1, by omega, by go_num, by rw [HST.out, ka9], HBn.out⟩
    case measure => simp [intOf]; omega
  · obtain rfl : k = 5 := by omega
    have hl1 := kmp e 5 (by omega)
    have hc1 : ¬ 9223372036854775807 < (B (kmi e 5)).size + (B (num e.till)).size := by omega
    have hc2 : ¬ 9223372036854775807 < (B (kmi e 5)).size + (B (num e.till)).size + (B (Rv.txs e.targets)).size := by omega
    have HS := hdd (fun W (hb : Below w1.heap.size w1 W) => by
     obtain ⟨-, -, -, -, -, -, -, -, -, -, -, -, e12, e13, -⟩ := ka6 (kad hb (kac HW1.out) HW1.out)
     exact And.intro e12 e13)
    clear HF
    have HF := hdd (kvf HFr.out)
    go_upto_region 9 with fail
    refine kat (S := fun W : World => W.cell? ⟨w.heap.size, 12, none⟩ = some (.int .i64 e.till) ∧ W.cell? ⟨w.heap.size, 13, none⟩ = some (.slice ta e.targets.length tc)) (by kernel_rfl) (HS.out _ HF.out) (fun hHeld => ?_)
    simp only [List.toList_toArray, len, kbc]
    iterate 3 (refine tk 0 rfl rfl rfl (by kernel_rfl) (fun _ _ _ h => h) (by intro W hW; (try dsimp only at hW); go_simp <;> with_reducible rfl) (by assumption) ?_; simp only [Act.put, s1, s2, s3])
    iterate 2 (refine tk 5 rfl rfl rfl (by kernel_rfl) (fun _ _ _ h => h) (by intro W hW; (try dsimp only at hW); go_simp <;> with_reducible rfl) (by assumption) ?_; simp only [Act.put, s1, s2, s3])
    refine wpAnyH_ready (rs := [3]) (by kernel_rfl) (by simp) ?_
    refine ar1 rfl (fun K hK => ?_)
    go_simp
    refine (kf4 e.till _ (HTW.out _ HF.out)).mono ?_
    rintro en u ⟨rfl, hb⟩
    have HFn := hdd (HF.out.trans (hb.mono HF.out.size))
    refine hK.out _ _ (HS.out _ HFn.out) (fun hHeld => ?_)
    clear hK K hb HF
    have HF := HFn
    clear HFn
    try simp only [Act.put, s1, s2, s3]
    (refine tk 4 rfl rfl rfl (by kernel_rfl) (fun _ _ _ h => h) (by intro W hW; (try dsimp only at hW); go_simp <;> with_reducible rfl) (by assumption) ?_; simp only [Act.put, s1, s2, s3])
    refine wpAnyH_ready (rs := [7]) (by kernel_rfl) (by simp) ?_
    refine ar1 rfl (fun K hK => ?_)
    go_simp
    refine (kjo _ e.targets _ (HT.out.below (HBW.out _ HF.out)) HTl.out (HTW.out _ HF.out)).mono ?_
    rintro en u ⟨rfl, hb⟩
    have HFn := hdd (HF.out.trans (hb.mono HF.out.size))
    refine hK.out _ _ (HS.out _ HFn.out) (fun hHeld => ?_)
    clear hK K hb HF
    have HF := HFn
    clear HFn
    try simp only [Act.put, s1, s2, s3]
    (refine tk 8 rfl rfl rfl (by kernel_rfl) (fun _ _ _ h => h) (by intro W hW; (try dsimp only at hW); go_simp <;> with_reducible rfl) (by assumption) ?_; simp only [Act.put, s1, s2, s3])
    (refine tk 9 rfl rfl rfl (by kernel_rfl) (fun _ _ _ h => h) (by intro W hW; (try dsimp only at hW); go_simp <;> with_reducible rfl) (by assumption) ?_; simp only [Act.put, s1, s2, s3])
    (refine tk 10 rfl rfl rfl (by kernel_rfl) (fun _ _ _ h => h) (by intro W hW; (try dsimp only at hW); go_simp <;> with_reducible rfl) (by assumption) ?_; simp only [Act.put, s1, s2, s3])
    refine wpAnyH_done (by kernel_rfl) ?_ _
    simp only [Exit.then]
    go_wp2
    go_ret2
    exact ⟨congrArg (fun s => Ending.returned (.tuple #[.string s, .int .i64 0])) (show B (kmi e 5) ++ B (num e.till) ++ B (Rv.txs e.targets) = B (Rv.encV e) by rw [ka9, ka9, kws]), HBW.out _ HF.out⟩
theorem khn (v : Value) (e : Rv.Ev) (w : World) (h : kc1 v e w) (ht : Tab w) : Calls Tryz.prog 35 #[v] w fun en w' => en = .returned (.tuple #[.string (B (Rv.encE e)), .int .i64 (Rv.validE e)]) ∧ Below w.heap.size w w' := by
 obtain ⟨ho, na, nc, ta, tc, sa, sc, ha, hc, ra, rc, rfl, h1, h2, h3, h4, h5⟩ := h
 have he : kc1 (evW e na nc ta tc sa sc ha hc ra rc) e w := ⟨ho, na, nc, ta, tc, sa, sc, ha, hc, ra, rc, rfl, h1, h2, h3, h4, h5⟩
 cases hv : Rv.validB e
 · have := ktn e na ta sa ha ra nc tc sc hc rc w he hv
   unfold Rv.encE Rv.validE
   rw [hv]
   exact this
 · have := kuu e na ta sa ha ra nc tc sc hc rc w he hv ht
   unfold Rv.encE Rv.validE
   rw [hv]
   exact this
theorem knh (v : Value) (e : Rv.Ev) (w : World) (h : kc1 v e w) (ht : Tab w) : Calls Tryz.prog 37 #[v] w fun en w' => en = .returned (.tuple #[.string (B (Rv.idE e)), .int .i64 (Rv.validE e)]) ∧ Below w.heap.size w w' := by
 obtain ⟨ho, na, nc, ta, tc, sa, sc, ha, hc, ra, rc, rfl, h1, h2, h3, h4, h5⟩ := h
 have he : kc1 (evW e na nc ta tc sa sc ha hc ra rc) e w := ⟨ho, na, nc, ta, tc, sa, sc, ha, hc, ra, rc, rfl, h1, h2, h3, h4, h5⟩
 have hb1 : Below w.heap.size w (w.alloc (.cells (evS e na nc ta tc sa sc ha hc ra rc) 45)) := (Below.refl _ _).alloc (Nat.le_refl _) _
 have hq := khn _ e _ (he.below hb1) (ht.same hb1)
 have HB1 := hdd hb1
 have HE := hdd (kak w (.cells (evS e na nc ta tc sa sc ha hc ra rc) 45))
 have HTab := hdd ht
 clear he h1 h2 h3 h4 h5 ho hb1 ht
 cases hv : Rv.validB e
 · have e1 : Rv.encE e = [] := by unfold Rv.encE; rw [hv]; rfl
   have e2 : Rv.idE e = [] := by unfold Rv.idE; rw [hv]; rfl
   have e3 : Rv.validE e = 1 := by unfold Rv.validE; rw [hv]; rfl
   rw [e1, e3] at hq
   rw [e2, e3]
   have QF := hdd hq
   clear e1 e2 e3 hq hv
   go_enter Tryz.func37, Tryz.ntmps37
   go_wp2_with (first | (refine wpList_load_row rfl 45 _ rfl w.heap.size rfl 45 (evS e na nc ta tc sa sc ha hc ra rc) (0, 0) _ HE.out rfl rfl (by kernel_rfl) ?_) | fail)
   refine (QF.out).mono ?_
   rintro en w1 ⟨rfl, hb⟩
   have HB2 := hdd (HB1.out.next hb)
   clear hb
   go_wp2
   go_ret2
   exact ⟨rfl, HB2.out⟩
 · have e1 : Rv.encE e = Rv.encV e := by unfold Rv.encE; rw [hv]; rfl
   have e2 : Rv.idE e = hsh [Rv.kEvent, Rv.encV e] := by unfold Rv.idE; rw [hv]; rfl
   have e3 : Rv.validE e = 0 := by unfold Rv.validE; rw [hv]; rfl
   have hl := kh1 e
   rw [e1, e3] at hq
   rw [e2, e3]
   have QF := hdd hq
   have hd : hsh [Rv.kEvent, Rv.encV e] = Sha.sha (Rv.txs [Rv.kEvent, Rv.encV e]) := rfl
   obtain ⟨R, hR⟩ : ∃ R, Sha.sha (Rv.txs [Rv.kEvent, Rv.encV e]) = R := ⟨_, rfl⟩
   rw [hd, hR]
   have hl2 : (Rv.txs [Rv.kEvent, Rv.encV e]).length ≤ 1000000000000 := by have := kga [Rv.kEvent, Rv.encV e]; rw [kbt] at this; omega
   generalize Rv.encV e = D at *
   have HR := hdd hR
   clear hR e1 e2 e3 hq hv hd
   go_enter Tryz.func37, Tryz.ntmps37
   go_wp2_with (first | (refine wpList_load_row rfl 45 _ rfl w.heap.size rfl 45 (evS e na nc ta tc sa sc ha hc ra rc) (0, 0) _ HE.out rfl rfl (by kernel_rfl) ?_) | fail)
   refine (QF.out).mono ?_
   rintro en w1 ⟨rfl, hb⟩
   have HB2 := hdd (HB1.out.next hb)
   clear hb
   go_wp2_with fail
   have hb3 := (Below.refl w1.heap.size w1).alloc (Nat.le_refl _) (.cells #[.string ⟨#[101, 118, 101, 110, 116]⟩, .string (B D)] 9)
   have hsl : IsSl (.slice (some ⟨w1.heap.size, 0, none⟩) 2 2) ([Rv.kEvent, D].map vS) (w1.alloc (.cells #[.string ⟨#[101, 118, 101, 110, 116]⟩, .string (B D)] 9)) :=
    IsSl.of_owns (base := 0) (kc3 (n := 2) (kak w1 (.cells #[.string ⟨#[101, 118, 101, 110, 116]⟩, .string (B D)] 9)) (Nat.zero_le _) rfl (by unfold maxLen; omega)) (by simp [maxLen])
   refine (kjo _ [Rv.kEvent, D] _ hsl (by
    intro x hx
    simp only [List.mem_cons, List.not_mem_nil, or_false] at hx
    unfold maxLen
    rcases hx with rfl | rfl
    · decide
    · omega) (HTab.out.same ((HB2.out.trans (hb3.mono HB2.out.size))))).mono ?_
   rintro en w2 ⟨rfl, hb⟩
   have HB3 := hdd (HB2.out.trans ((hb3.trans (hb.mono (by simp))).mono HB2.out.size))
   clear hb hb3 hsl
   have hDS := fun W => klw (Rv.txs [Rv.kEvent, D]) W hl2
   rw [HR.out] at hDS
   generalize Rv.txs [Rv.kEvent, D] = X at *
   have HDS := hdd hDS
   clear hDS hl2
   go_wp2_with fail
   refine (HDS.out _).mono ?_
   rintro en w3 ⟨rfl, hb⟩
   have HB4 := hdd (HB3.out.next hb)
   clear hb
   go_wp2
   go_ret2
   exact ⟨rfl, HB4.out⟩
end Go.Proofs.YtknpbekoenbphaaGreatDoor
