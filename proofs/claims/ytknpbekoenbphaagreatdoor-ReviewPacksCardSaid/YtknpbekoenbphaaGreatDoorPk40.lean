/- Parts of the proofs: WkRr3. No condition beyond those at each theorem. -/
import Derived.Test.YtknpbekoenbphaaGreatDoorPk33
import Derived.Test.YtknpbekoenbphaaGreatDoorPk34
set_option linter.unusedVariables false
set_option linter.unusedSimpArgs false
set_option maxHeartbeats 16000000
set_option maxRecDepth 100000
namespace Go.Proofs.YtknpbekoenbphaaGreatDoor
open Go Go.RowKit Licit
theorem kg9 (x : Bs) (w : World) (hx : x.length ≤ maxLen) : kcg 87 #[.string (B x)] w (.string (B (Rv.tx x))) := by
 have H := hdd (kgh x w hx)
 go_enter Tryz.func87, Tryz.ntmps87
 go_wp2_with (go_at_call 156; refine (H.out).mono ?_; rintro en w3 ⟨rfl, hb⟩; have HB := hdd hb; clear hb)
 go_ret
 exact ⟨rfl, HB.out⟩
theorem kmt (v : Value) (xs : List Bs) (w : World) (h : IsSl v (xs.map vS) w) (hl : ∀ x ∈ xs, x.length ≤ maxLen) : kcg 88 #[v] w (.string (B (Rv.txs xs))) := by
 have H := hdd (kc2 v xs w h hl)
 clear h
 go_enter Tryz.func88, Tryz.ntmps88
 go_wp2_with (go_at_call 110; refine (H.out).mono ?_; rintro en w3 ⟨rfl, hb⟩; have HB := hdd hb; clear hb)
 go_ret
 exact ⟨rfl, HB.out⟩
theorem kra (e : Rv.Ev) (na ta sa ha ra : Option Addr) (nc tc sc hc rc : Nat) (w : World) (h : kc1 (evW e na nc ta tc sa sc ha hc ra rc) e w) (hv : Rv.validB e = false) :
 Calls Tryz.prog 36 #[evW e na nc ta tc sa sc ha hc ra rc] w fun en w' => en = .returned (.tuple #[.string ⟨#[]⟩, .int .i64 1]) ∧ Below w.heap.size w w' := by
 have hb1 : Below w.heap.size w (w.alloc (.cells (evS e na nc ta tc sa sc ha hc ra rc) 45)) := (Below.refl _ _).alloc (Nat.le_refl _) _
 have hf := kh6 _ e _ (h.below hb1)
 rw [show Rv.validE e = 1 by unfold Rv.validE; rw [hv]; rfl] at hf
 have QF := hdd hf
 have HB1 := hdd hb1
 have HE := hdd (kak w (.cells (evS e na nc ta tc sa sc ha hc ra rc) 45))
 clear hf h hv hb1
 go_enter Tryz.func36, Tryz.ntmps36
 go_wp2_with (first | (refine wpList_load_row rfl 45 _ rfl w.heap.size rfl 45 (evS e na nc ta tc sa sc ha hc ra rc) (0, 0) _ HE.out rfl rfl (by kernel_rfl) ?_) | fail)
 refine (QF.out).mono ?_
 rintro en w1 ⟨rfl, hb⟩
 have HB2 := hdd (HB1.out.next hb)
 clear hb
 go_wp2
 go_ret2
 exact ⟨rfl, HB2.out⟩
theorem krl (e : Rv.Ev) (na ta sa ha ra : Option Addr) (nc tc sc hc rc : Nat) (w : World) (h : kc1 (evW e na nc ta tc sa sc ha hc ra rc) e w) (hv : Rv.validB e = true) :
 Calls Tryz.prog 36 #[evW e na nc ta tc sa sc ha hc ra rc] w fun en w' => en = .returned (.tuple #[.string (B (Rv.encV e)), .int .i64 0]) ∧ Below w.heap.size w w' := by
 have hb1 : Below w.heap.size w (w.alloc (.cells (evS e na nc ta tc sa sc ha hc ra rc) 45)) := (Below.refl _ _).alloc (Nat.le_refl _) _
 have hf := kh6 _ e _ (h.below hb1)
 rw [show Rv.validE e = 0 by unfold Rv.validE; rw [hv]; rfl] at hf
 have QF := hdd hf
 have HB1 := hdd hb1
 have HE := hdd (kak w (.cells (evS e na nc ta tc sa sc ha hc ra rc) 45))
 obtain ⟨ho, na', nc', ta', tc', sa', sc', ha', hc', ra', rc', hq, hN, hT, -⟩ := h
 simp only [Value.agg.injEq, Array.mk.injEq, List.cons.injEq, Value.slice.injEq, true_and, and_true] at hq
 obtain ⟨⟨rfl, rfl⟩, ⟨rfl, rfl⟩, -⟩ := hq
 have hm : ∀ n : Nat, n ≤ 1000000000 → n ≤ maxLen := fun n h => by unfold maxLen; omega
 have HN := hdd hN
 have HT := hdd hT
 have HNl := hdd (fun x hx => hm _ (ho.names x hx))
 have HTl := hdd (fun x hx => hm _ (ho.targets x hx))
 have hauthor := hm _ ho.author
 have hroot := hm _ ho.root
 have HP := hdd (And.intro (hm _ ho.pkg) (And.intro (hm _ ho.digest) (And.intro (hm _ ho.question) (And.intro (hm _ ho.scope) (hm _ ho.answer)))))
 have hsk := kcd e.kind
 have hsn := kcd e.number
 have hsb := kcd e.bits
 have hsh := kcd e.height
 have hsa := kfb e.author
 have hsr := kfb e.root
 have hsx := kga e.names
 clear hf hv hb1 hN hT ho hm
 go_enter Tryz.func36, Tryz.ntmps36
 go_wp2_with (first | (refine wpList_load_row rfl 45 _ rfl w.heap.size rfl 45 (evS e na nc ta tc sa sc ha hc ra rc) (0, 0) _ HE.out rfl rfl (by kernel_rfl) ?_) | fail)
 refine (QF.out).mono ?_
 rintro en w1 ⟨rfl, hb⟩
 have HB2 := hdd (HB1.out.next hb)
 have HW1 := hdd (kad hb (by simp) HE.out)
 clear hb QF HE HB1
 have hc1 : ¬ 9223372036854775807 < (B (num e.kind)).size + (B (Rv.tx e.author)).size := by omega
 have hc2 : ¬ 9223372036854775807 < (B (num e.kind)).size + (B (Rv.tx e.author)).size + (B (num e.number)).size := by omega
 have hc3 : ¬ 9223372036854775807 < (B (num e.kind)).size + (B (Rv.tx e.author)).size + (B (num e.number)).size + (B (Rv.txs e.names)).size := by omega
 have hc4 : ¬ 9223372036854775807 < (B (num e.kind)).size + (B (Rv.tx e.author)).size + (B (num e.number)).size + (B (Rv.txs e.names)).size + (B (Rv.tx e.root)).size := by omega
 have hc5 : ¬ 9223372036854775807 < (B (num e.kind)).size + (B (Rv.tx e.author)).size + (B (num e.number)).size + (B (Rv.txs e.names)).size + (B (Rv.tx e.root)).size + (B (num e.bits)).size := by omega
 have hc6 : ¬ 9223372036854775807 < (B (num e.kind)).size + (B (Rv.tx e.author)).size + (B (num e.number)).size + (B (Rv.txs e.names)).size + (B (Rv.tx e.root)).size + (B (num e.bits)).size + (B (num e.height)).size := by omega
 go_upto_region 3 with fail
 have HS := hdd (fun W (hb : Below w1.heap.size w1 W) => by
  obtain ⟨e0, e1, e2, e3, e4, e5, e6, -⟩ := ka6 (kad hb (kac HW1.out) HW1.out)
  exact And.intro e0 (And.intro e1 (And.intro e2 (And.intro e3 (And.intro e4 (And.intro e5 e6))))))
 have HF := hdd (kvf (Below.refl w1.heap.size w1))
 have HBW := hdd (fun W (hb : Below w1.heap.size w1 W) => HB2.out.trans (hb.mono HB2.out.size))
 refine kat (S := fun W : World => W.cell? ⟨w.heap.size, 0, none⟩ = some (.int .i64 e.kind) ∧ W.cell? ⟨w.heap.size, 1, none⟩ = some (.string (B e.author)) ∧ W.cell? ⟨w.heap.size, 2, none⟩ = some (.int .i64 e.number) ∧ W.cell? ⟨w.heap.size, 3, none⟩ = some (.slice na e.names.length nc) ∧ W.cell? ⟨w.heap.size, 4, none⟩ = some (.string (B e.root)) ∧ W.cell? ⟨w.heap.size, 5, none⟩ = some (.int .i64 e.bits) ∧ W.cell? ⟨w.heap.size, 6, none⟩ = some (.int .i64 e.height)) (by kernel_rfl) (HS.out _ HF.out) (fun hHeld => ?_)
 simp only [List.toList_toArray, len, kbc]
 iterate 2 (refine tk 0 rfl rfl rfl (by kernel_rfl) (fun _ _ _ h => h) (by intro W hW; (try dsimp only at hW); go_simp <;> with_reducible rfl) (by assumption) ?_; simp only [Act.put, s1, s2, s3])
 iterate 2 (refine tk 3 rfl rfl rfl (by kernel_rfl) (fun _ _ _ h => h) (by intro W hW; (try dsimp only at hW); go_simp <;> with_reducible rfl) (by assumption) ?_; simp only [Act.put, s1, s2, s3])
 iterate 2 (refine tk 7 rfl rfl rfl (by kernel_rfl) (fun _ _ _ h => h) (by intro W hW; (try dsimp only at hW); go_simp <;> with_reducible rfl) (by assumption) ?_; simp only [Act.put, s1, s2, s3])
 iterate 2 (refine tk 11 rfl rfl rfl (by kernel_rfl) (fun _ _ _ h => h) (by intro W hW; (try dsimp only at hW); go_simp <;> with_reducible rfl) (by assumption) ?_; simp only [Act.put, s1, s2, s3])
 iterate 2 (refine tk 15 rfl rfl rfl (by kernel_rfl) (fun _ _ _ h => h) (by intro W hW; (try dsimp only at hW); go_simp <;> with_reducible rfl) (by assumption) ?_; simp only [Act.put, s1, s2, s3])
 iterate 3 (refine tk 19 rfl rfl rfl (by kernel_rfl) (fun _ _ _ h => h) (by intro W hW; (try dsimp only at hW); go_simp <;> with_reducible rfl) (by assumption) ?_; simp only [Act.put, s1, s2, s3])
 iterate 3 (refine tk 24 rfl rfl rfl (by kernel_rfl) (fun _ _ _ h => h) (by intro W hW; (try dsimp only at hW); go_simp <;> with_reducible rfl) (by assumption) ?_; simp only [Act.put, s1, s2, s3])
 refine wpAnyH_ready (rs := [2]) (by kernel_rfl) (by simp) ?_
 refine ar1 rfl (fun K hK => ?_)
 go_simp
 refine (kmv e.kind _).mono ?_
 rintro en u ⟨rfl, hb⟩
 have HFn := hdd (HF.out.trans (hb.mono HF.out.size))
 refine hK.out _ _ (HS.out _ HFn.out) (fun hHeld => ?_)
 clear hK K hb HF
 have HF := HFn
 clear HFn
 try simp only [Act.put, s1, s2, s3]
 refine wpAnyH_ready (rs := [5]) (by kernel_rfl) (by simp) ?_
 refine ar1 rfl (fun K hK => ?_)
 go_simp
 refine (kg9 e.author _ hauthor).mono ?_
 rintro en u ⟨rfl, hb⟩
 have HFn := hdd (HF.out.trans (hb.mono HF.out.size))
 refine hK.out _ _ (HS.out _ HFn.out) (fun hHeld => ?_)
 clear hK K hb HF
 have HF := HFn
 clear HFn
 try simp only [Act.put, s1, s2, s3]
 (refine tk 6 rfl rfl rfl (by kernel_rfl) (fun _ _ _ h => h) (by intro W hW; (try dsimp only at hW); go_simp <;> with_reducible rfl) (by assumption) ?_; simp only [Act.put, s1, s2, s3])
 refine wpAnyH_ready (rs := [9]) (by kernel_rfl) (by simp) ?_
 refine ar1 rfl (fun K hK => ?_)
 go_simp
 refine (kmv e.number _).mono ?_
 rintro en u ⟨rfl, hb⟩
 have HFn := hdd (HF.out.trans (hb.mono HF.out.size))
 refine hK.out _ _ (HS.out _ HFn.out) (fun hHeld => ?_)
 clear hK K hb HF
 have HF := HFn
 clear HFn
 try simp only [Act.put, s1, s2, s3]
 (refine tk 10 rfl rfl rfl (by kernel_rfl) (fun _ _ _ h => h) (by intro W hW; (try dsimp only at hW); go_simp <;> with_reducible rfl) (by assumption) ?_; simp only [Act.put, s1, s2, s3])
 refine wpAnyH_ready (rs := [13]) (by kernel_rfl) (by simp) ?_
 refine ar1 rfl (fun K hK => ?_)
 go_simp
 refine (kmt _ e.names _ (HN.out.below (HBW.out _ HF.out)) HNl.out).mono ?_
 rintro en u ⟨rfl, hb⟩
 have HFn := hdd (HF.out.trans (hb.mono HF.out.size))
 refine hK.out _ _ (HS.out _ HFn.out) (fun hHeld => ?_)
 clear hK K hb HF
 have HF := HFn
 clear HFn
 try simp only [Act.put, s1, s2, s3]
 (refine tk 14 rfl rfl rfl (by kernel_rfl) (fun _ _ _ h => h) (by intro W hW; (try dsimp only at hW); go_simp <;> with_reducible rfl) (by assumption) ?_; simp only [Act.put, s1, s2, s3])
 refine wpAnyH_ready (rs := [17]) (by kernel_rfl) (by simp) ?_
 refine ar1 rfl (fun K hK => ?_)
 go_simp
 refine (kg9 e.root _ hroot).mono ?_
 rintro en u ⟨rfl, hb⟩
 have HFn := hdd (HF.out.trans (hb.mono HF.out.size))
 refine hK.out _ _ (HS.out _ HFn.out) (fun hHeld => ?_)
 clear hK K hb HF
 have HF := HFn
 clear HFn
 try simp only [Act.put, s1, s2, s3]
 (refine tk 18 rfl rfl rfl (by kernel_rfl) (fun _ _ _ h => h) (by intro W hW; (try dsimp only at hW); go_simp <;> with_reducible rfl) (by assumption) ?_; simp only [Act.put, s1, s2, s3])
 refine wpAnyH_ready (rs := [22]) (by kernel_rfl) (by simp) ?_
 refine ar1 rfl (fun K hK => ?_)
 go_simp
 refine (kmv e.bits _).mono ?_
 rintro en u ⟨rfl, hb⟩
 have HFn := hdd (HF.out.trans (hb.mono HF.out.size))
 refine hK.out _ _ (HS.out _ HFn.out) (fun hHeld => ?_)
 clear hK K hb HF
 have HF := HFn
 clear HFn
 try simp only [Act.put, s1, s2, s3]
 (refine tk 23 rfl rfl rfl (by kernel_rfl) (fun _ _ _ h => h) (by intro W hW; (try dsimp only at hW); go_simp <;> with_reducible rfl) (by assumption) ?_; simp only [Act.put, s1, s2, s3])
 refine wpAnyH_ready (rs := [27]) (by kernel_rfl) (by simp) ?_
 refine ar1 rfl (fun K hK => ?_)
 go_simp
 refine (kmv e.height _).mono ?_
 rintro en u ⟨rfl, hb⟩
 have HFn := hdd (HF.out.trans (hb.mono HF.out.size))
 refine hK.out _ _ (HS.out _ HFn.out) (fun hHeld => ?_)
 clear hK K hb HF
 have HF := HFn
 clear HFn
 try simp only [Act.put, s1, s2, s3]
 (refine tk 28 rfl rfl rfl (by kernel_rfl) (fun _ _ _ h => h) (by intro W hW; (try dsimp only at hW); go_simp <;> with_reducible rfl) (by assumption) ?_; simp only [Act.put, s1, s2, s3])
 (refine tk 29 rfl rfl rfl (by kernel_rfl) (fun _ _ _ h => h) (by intro W hW; (try dsimp only at hW); go_simp <;> with_reducible rfl) (by assumption) ?_; simp only [Act.put, s1, s2, s3])
 refine wpAnyH_done (by kernel_rfl) ?_ _
 simp only [Exit.then]
 have hh : B (num e.kind) ++ B (Rv.tx e.author) ++ B (num e.number) ++ B (Rv.txs e.names) ++ B (Rv.tx e.root) ++ B (num e.bits) ++ B (num e.height) = B (kmi e 0) := by
  simp only [ka9]
  unfold kmi hdV
  simp
 rw [hh]
 clear hh hc1 hc2 hc3 hc4 hc5 hc6 hsk hsn hsb hsh hsa hsr hsx hHeld HS
 have HFo := hdd HF.out
 obtain ⟨hpk, hdg, hqu, hsc, han⟩ := HP.out
 have s0 := kmp e 0 (by omega)
 have s1 := kfb e.pkg
 have s2 := kfb e.digest
 have s3 := kfb e.question
 have s4 := kfb e.scope
 have s5 := kfb e.answer
 have s6 := kcd e.till
 have s7 := kga e.targets
 have hc1 : ¬ 9223372036854775807 < (B (Rv.tx e.pkg)).size + (B (Rv.tx e.digest)).size := by omega
 have hc2 : ¬ 9223372036854775807 < (B (Rv.tx e.pkg)).size + (B (Rv.tx e.digest)).size + (B (Rv.tx e.question)).size := by omega
 have hc3 : ¬ 9223372036854775807 < (B (Rv.tx e.pkg)).size + (B (Rv.tx e.digest)).size + (B (Rv.tx e.question)).size + (B (Rv.tx e.scope)).size := by omega
 have hc4 : ¬ 9223372036854775807 < (B (Rv.tx e.pkg)).size + (B (Rv.tx e.digest)).size + (B (Rv.tx e.question)).size + (B (Rv.tx e.scope)).size + (B (Rv.tx e.answer)).size := by omega
 have hc5 : ¬ 9223372036854775807 < (B (Rv.tx e.pkg)).size + (B (Rv.tx e.digest)).size + (B (Rv.tx e.question)).size + (B (Rv.tx e.scope)).size + (B (Rv.tx e.answer)).size + (B (num e.till)).size := by omega
 have hc6 : ¬ 9223372036854775807 < (B (Rv.tx e.pkg)).size + (B (Rv.tx e.digest)).size + (B (Rv.tx e.question)).size + (B (Rv.tx e.scope)).size + (B (Rv.tx e.answer)).size + (B (num e.till)).size + (B (Rv.txs e.targets)).size := by omega
 have hc7 : ¬ 9223372036854775807 < (B (kmi e 0)).size + ((B (Rv.tx e.pkg)).size + (B (Rv.tx e.digest)).size + (B (Rv.tx e.question)).size + (B (Rv.tx e.scope)).size + (B (Rv.tx e.answer)).size + (B (num e.till)).size + (B (Rv.txs e.targets)).size) := by omega
 go_upto_region 4 with fail
 have HS := hdd (fun W (hb : Below w1.heap.size w1 W) => by
  obtain ⟨-, -, -, -, -, -, -, e7, e8, e9, e10, e11, e12, e13, -⟩ := ka6 (kad hb (kac HW1.out) HW1.out)
  exact And.intro e7 (And.intro e8 (And.intro e9 (And.intro e10 (And.intro e11 (And.intro e12 e13))))))
 clear HF
 have HF := hdd (kvf HFo.out)
 refine kat (S := fun W : World => W.cell? ⟨w.heap.size, 7, none⟩ = some (.string (B e.pkg)) ∧ W.cell? ⟨w.heap.size, 8, none⟩ = some (.string (B e.digest)) ∧ W.cell? ⟨w.heap.size, 9, none⟩ = some (.string (B e.question)) ∧ W.cell? ⟨w.heap.size, 10, none⟩ = some (.string (B e.scope)) ∧ W.cell? ⟨w.heap.size, 11, none⟩ = some (.string (B e.answer)) ∧ W.cell? ⟨w.heap.size, 12, none⟩ = some (.int .i64 e.till) ∧ W.cell? ⟨w.heap.size, 13, none⟩ = some (.slice ta e.targets.length tc)) (by kernel_rfl) (HS.out _ HF.out) (fun hHeld => ?_)
 simp only [List.toList_toArray, len, kbc]
 iterate 3 (refine tk 0 rfl rfl rfl (by kernel_rfl) (fun _ _ _ h => h) (by intro W hW; (try dsimp only at hW); go_simp <;> with_reducible rfl) (by assumption) ?_; simp only [Act.put, s1, s2, s3])
 iterate 2 (refine tk 4 rfl rfl rfl (by kernel_rfl) (fun _ _ _ h => h) (by intro W hW; (try dsimp only at hW); go_simp <;> with_reducible rfl) (by assumption) ?_; simp only [Act.put, s1, s2, s3])
 iterate 2 (refine tk 8 rfl rfl rfl (by kernel_rfl) (fun _ _ _ h => h) (by intro W hW; (try dsimp only at hW); go_simp <;> with_reducible rfl) (by assumption) ?_; simp only [Act.put, s1, s2, s3])
 iterate 2 (refine tk 12 rfl rfl rfl (by kernel_rfl) (fun _ _ _ h => h) (by intro W hW; (try dsimp only at hW); go_simp <;> with_reducible rfl) (by assumption) ?_; simp only [Act.put, s1, s2, s3])
 iterate 2 (refine tk 16 rfl rfl rfl (by kernel_rfl) (fun _ _ _ h => h) (by intro W hW; (try dsimp only at hW); go_simp <;> with_reducible rfl) (by assumption) ?_; simp only [Act.put, s1, s2, s3])
 iterate 2 (refine tk 20 rfl rfl rfl (by kernel_rfl) (fun _ _ _ h => h) (by intro W hW; (try dsimp only at hW); go_simp <;> with_reducible rfl) (by assumption) ?_; simp only [Act.put, s1, s2, s3])
 iterate 2 (refine tk 24 rfl rfl rfl (by kernel_rfl) (fun _ _ _ h => h) (by intro W hW; (try dsimp only at hW); go_simp <;> with_reducible rfl) (by assumption) ?_; simp only [Act.put, s1, s2, s3])
 refine wpAnyH_ready (rs := [3]) (by kernel_rfl) (by simp) ?_
 refine ar1 rfl (fun K hK => ?_)
 go_simp
 refine (kg9 e.pkg _ hpk).mono ?_
 rintro en u ⟨rfl, hb⟩
 have HFn := hdd (HF.out.trans (hb.mono HF.out.size))
 refine hK.out _ _ (HS.out _ HFn.out) (fun hHeld => ?_)
 clear hK K hb HF
 have HF := HFn
 clear HFn
 try simp only [Act.put, s1, s2, s3]
 refine wpAnyH_ready (rs := [6]) (by kernel_rfl) (by simp) ?_
 refine ar1 rfl (fun K hK => ?_)
 go_simp
 refine (kg9 e.digest _ hdg).mono ?_
 rintro en u ⟨rfl, hb⟩
 have HFn := hdd (HF.out.trans (hb.mono HF.out.size))
 refine hK.out _ _ (HS.out _ HFn.out) (fun hHeld => ?_)
 clear hK K hb HF
 have HF := HFn
 clear HFn
 try simp only [Act.put, s1, s2, s3]
 (refine tk 7 rfl rfl rfl (by kernel_rfl) (fun _ _ _ h => h) (by intro W hW; (try dsimp only at hW); go_simp <;> with_reducible rfl) (by assumption) ?_; simp only [Act.put, s1, s2, s3])
 refine wpAnyH_ready (rs := [10]) (by kernel_rfl) (by simp) ?_
 refine ar1 rfl (fun K hK => ?_)
 go_simp
 refine (kg9 e.question _ hqu).mono ?_
 rintro en u ⟨rfl, hb⟩
 have HFn := hdd (HF.out.trans (hb.mono HF.out.size))
 refine hK.out _ _ (HS.out _ HFn.out) (fun hHeld => ?_)
 clear hK K hb HF
 have HF := HFn
 clear HFn
 try simp only [Act.put, s1, s2, s3]
 (refine tk 11 rfl rfl rfl (by kernel_rfl) (fun _ _ _ h => h) (by intro W hW; (try dsimp only at hW); go_simp <;> with_reducible rfl) (by assumption) ?_; simp only [Act.put, s1, s2, s3])
 refine wpAnyH_ready (rs := [14]) (by kernel_rfl) (by simp) ?_
 refine ar1 rfl (fun K hK => ?_)
 go_simp
 refine (kg9 e.scope _ hsc).mono ?_
 rintro en u ⟨rfl, hb⟩
 have HFn := hdd (HF.out.trans (hb.mono HF.out.size))
 refine hK.out _ _ (HS.out _ HFn.out) (fun hHeld => ?_)
 clear hK K hb HF
 have HF := HFn
 clear HFn
 try simp only [Act.put, s1, s2, s3]
 (refine tk 15 rfl rfl rfl (by kernel_rfl) (fun _ _ _ h => h) (by intro W hW; (try dsimp only at hW); go_simp <;> with_reducible rfl) (by assumption) ?_; simp only [Act.put, s1, s2, s3])
 refine wpAnyH_ready (rs := [18]) (by kernel_rfl) (by simp) ?_
 refine ar1 rfl (fun K hK => ?_)
 go_simp
 refine (kg9 e.answer _ han).mono ?_
 rintro en u ⟨rfl, hb⟩
 have HFn := hdd (HF.out.trans (hb.mono HF.out.size))
 refine hK.out _ _ (HS.out _ HFn.out) (fun hHeld => ?_)
 clear hK K hb HF
 have HF := HFn
 clear HFn
 try simp only [Act.put, s1, s2, s3]
 (refine tk 19 rfl rfl rfl (by kernel_rfl) (fun _ _ _ h => h) (by intro W hW; (try dsimp only at hW); go_simp <;> with_reducible rfl) (by assumption) ?_; simp only [Act.put, s1, s2, s3])
 refine wpAnyH_ready (rs := [22]) (by kernel_rfl) (by simp) ?_
 refine ar1 rfl (fun K hK => ?_)
 go_simp
 refine (kmv e.till _).mono ?_
 rintro en u ⟨rfl, hb⟩
 have HFn := hdd (HF.out.trans (hb.mono HF.out.size))
 refine hK.out _ _ (HS.out _ HFn.out) (fun hHeld => ?_)
 clear hK K hb HF
 have HF := HFn
 clear HFn
 try simp only [Act.put, s1, s2, s3]
 (refine tk 23 rfl rfl rfl (by kernel_rfl) (fun _ _ _ h => h) (by intro W hW; (try dsimp only at hW); go_simp <;> with_reducible rfl) (by assumption) ?_; simp only [Act.put, s1, s2, s3])
 refine wpAnyH_ready (rs := [26]) (by kernel_rfl) (by simp) ?_
 refine ar1 rfl (fun K hK => ?_)
 go_simp
 refine (kmt _ e.targets _ (HT.out.below (HBW.out _ HF.out)) HTl.out).mono ?_
 rintro en u ⟨rfl, hb⟩
 have HFn := hdd (HF.out.trans (hb.mono HF.out.size))
 refine hK.out _ _ (HS.out _ HFn.out) (fun hHeld => ?_)
 clear hK K hb HF
 have HF := HFn
 clear HFn
 try simp only [Act.put, s1, s2, s3]
 iterate 2 (refine tk 27 rfl rfl rfl (by kernel_rfl) (fun _ _ _ h => h) (by intro W hW; (try dsimp only at hW); go_simp <;> with_reducible rfl) (by assumption) ?_; simp only [Act.put, s1, s2, s3])
 (refine tk 29 rfl rfl rfl (by kernel_rfl) (fun _ _ _ h => h) (by intro W hW; (try dsimp only at hW); go_simp <;> with_reducible rfl) (by assumption) ?_; simp only [Act.put, s1, s2, s3])
 refine wpAnyH_done (by kernel_rfl) ?_ _
 simp only [Exit.then]
 go_wp2
 go_ret2
 exact ⟨congrArg (fun s => Ending.returned (.tuple #[.string s, .int .i64 0])) (show B (kmi e 0) ++ (B (Rv.tx e.pkg) ++ B (Rv.tx e.digest) ++ B (Rv.tx e.question) ++ B (Rv.tx e.scope) ++ B (Rv.tx e.answer) ++ B (num e.till) ++ B (Rv.txs e.targets)) = B (Rv.encV e) by simp only [ka9]; unfold kmi hdV Rv.encV; simp), HBW.out _ HF.out⟩
theorem kie (v : Value) (e : Rv.Ev) (w : World) (h : kc1 v e w) : Calls Tryz.prog 36 #[v] w fun en w' => en = .returned (.tuple #[.string (B (Rv.encE e)), .int .i64 (Rv.validE e)]) ∧ Below w.heap.size w w' := by
 obtain ⟨ho, na, nc, ta, tc, sa, sc, ha, hc, ra, rc, rfl, h1, h2, h3, h4, h5⟩ := h
 have he : kc1 (evW e na nc ta tc sa sc ha hc ra rc) e w := ⟨ho, na, nc, ta, tc, sa, sc, ha, hc, ra, rc, rfl, h1, h2, h3, h4, h5⟩
 cases hv : Rv.validB e
 · have := kra e na ta sa ha ra nc tc sc hc rc w he hv
   unfold Rv.encE Rv.validE
   rw [hv]
   exact this
 · have := krl e na ta sa ha ra nc tc sc hc rc w he hv
   unfold Rv.encE Rv.validE
   rw [hv]
   exact this
theorem ktx (v : Value) (e : Rv.Ev) (w : World) (h : kc1 v e w) : Calls Tryz.prog 38 #[v] w fun en w' => en = .returned (.tuple #[.string (B (Rv.idE e)), .int .i64 (Rv.validE e)]) ∧ Below w.heap.size w w' := by
 obtain ⟨ho, na, nc, ta, tc, sa, sc, ha, hc, ra, rc, rfl, h1, h2, h3, h4, h5⟩ := h
 have he : kc1 (evW e na nc ta tc sa sc ha hc ra rc) e w := ⟨ho, na, nc, ta, tc, sa, sc, ha, hc, ra, rc, rfl, h1, h2, h3, h4, h5⟩
 have hb1 : Below w.heap.size w (w.alloc (.cells (evS e na nc ta tc sa sc ha hc ra rc) 45)) := (Below.refl _ _).alloc (Nat.le_refl _) _
 have hq := kie _ e _ (he.below hb1)
 have HB1 := hdd hb1
 have HE := hdd (kak w (.cells (evS e na nc ta tc sa sc ha hc ra rc) 45))
 clear he h1 h2 h3 h4 h5 ho hb1
 cases hv : Rv.validB e
 · have e1 : Rv.encE e = [] := by unfold Rv.encE; rw [hv]; rfl
   have e2 : Rv.idE e = [] := by unfold Rv.idE; rw [hv]; rfl
   have e3 : Rv.validE e = 1 := by unfold Rv.validE; rw [hv]; rfl
   rw [e1, e3] at hq
   rw [e2, e3]
   have QF := hdd hq
   clear e1 e2 e3 hq hv
   go_enter Tryz.func38, Tryz.ntmps38
   go_wp2_with (first | (refine wpList_load_row rfl 45 _ rfl w.heap.size rfl 45 (evS e na nc ta tc sa sc ha hc ra rc) (0, 0) _ HE.out rfl rfl (by kernel_rfl) ?_) | fail)
   refine (QF.out).mono ?_
   rintro en w1 ⟨rfl, hb⟩
   have HB2 := hdd (HB1.out.next hb)
   clear hb
   go_wp2
   go_ret2
   exact ⟨rfl, HB2.out⟩
 · have e1 : Rv.encE e = Rv.encV e := by unfold Rv.encE; rw [hv]; rfl
   have e2 : Rv.idE e = hsh [Rv.kEvent, Rv.encV e] := by unfold Rv.idE; rw [hv]; rfl
   have e3 : Rv.validE e = 0 := by unfold Rv.validE; rw [hv]; rfl
   have hl := kh1 e
   rw [e1, e3] at hq
   rw [e2, e3]
   have QF := hdd hq
   obtain ⟨R, hR⟩ : ∃ R, hsh [Rv.kEvent, Rv.encV e] = R := ⟨_, rfl⟩
   rw [hR]
   generalize Rv.encV e = D at *
   have hH := fun W => kcg.alloc (kj8 (l := [Rv.kEvent, D]) (cs := #[.string ⟨#[101, 118, 101, 110, 116]⟩, .string (B D)]) 2 rfl (by decide) rfl (by decide) (by
    intro x hx
    simp only [List.mem_cons, List.not_mem_nil, or_false] at hx
    unfold maxLen
    rcases hx with rfl | rfl
    · decide
    · omega) W)
   rw [hR] at hH
   have HH := hdd hH
   clear hR e1 e2 e3 hq hv hH
   go_enter Tryz.func38, Tryz.ntmps38
   go_wp2_with (first | (refine wpList_load_row rfl 45 _ rfl w.heap.size rfl 45 (evS e na nc ta tc sa sc ha hc ra rc) (0, 0) _ HE.out rfl rfl (by kernel_rfl) ?_) | fail)
   refine (QF.out).mono ?_
   rintro en w1 ⟨rfl, hb⟩
   have HB2 := hdd (HB1.out.next hb)
   clear hb
   go_wp2_with fail
   refine (HH.out _).mono ?_
   rintro en w2 ⟨rfl, hb⟩
   have HB3 := hdd (HB2.out.next hb)
   clear hb
   go_wp2
   go_ret2
   exact ⟨rfl, HB3.out⟩
end Go.Proofs.YtknpbekoenbphaaGreatDoor
