/- Parts of the proofs: WkRv2. No condition beyond those at each theorem. -/
import Derived.Deep.Cut
import Derived.Test.YtknpbekoenbphaaGreatDoorPk07
set_option linter.unusedVariables false
set_option linter.unusedSimpArgs false
set_option maxHeartbeats 16000000
set_option maxRecDepth 100000
namespace Go.Proofs.YtknpbekoenbphaaGreatDoor
open Go Go.RowKit Licit
theorem kgq (x : Bs) (w : World) : Calls Tryz.prog 160 #[.string (B x)] w fun e w' => e = .returned (.bool (Rv.digB x)) ∧ w = w' := (kb7 x w).mono fun _ _ h => ⟨h.1, h.2.symm⟩
theorem kyr (x : Bs) (w : World) (h : x.length ≤ maxLen) : Calls Tryz.prog 91 #[.string (B x)] w fun e w' => e = .returned (.bool (Rv.nameB x)) ∧ w = w' := (k2u x w h).mono fun _ _ h => ⟨h.1, h.2.symm⟩
def kb9 (e : Rv.Ev) : Rv.Ev :=
 if e.kind = 1 then { e with root := [], bits := 0, height := 0 }
 else if e.kind = 2 then { e with pkg := [], digest := [] }
 else if e.kind = 3 then { e with question := [], scope := [], answer := [], digest := [], till := 0 }
 else if e.kind = 4 then { e with targets := [] }
 else if e.kind = 5 then { e with targets := [] }
 else e
def kdp (k : Int) (vt : Value) : Value := if k = 4 ∨ k = 5 then .slice none 0 0 else vt
def okF (e : Rv.Ev) : Bool := Rv.kindB e && (decide (e.kind = 1) || (decide (1 ≤ e.number) && decide (0 < e.names.length)))
abbrev evC (e : Rv.Ev) (vn vt vs vh vr : Value) : Array Value := #[.int .i64 e.kind, .string (B e.author), .int .i64 e.number, vn, .string (B e.root), .int .i64 e.bits, .int .i64 e.height, .string (B e.pkg), .string (B e.digest), .string (B e.question), .string (B e.scope), .string (B e.answer), .int .i64 e.till, vt, .int .i64 e.sg.i, vs, vh, vr]
def kfm (w : World) (e' : Rv.Ev) (vn vt vs vh vr : Value) (ok : Bool) (en : Ending) (w' : World) : Prop := en = .returned (.tuple #[.agg (evC e' vn vt vs vh vr), .bool ok]) ∧ Below w.heap.size w w'
theorem kax (e : Rv.Ev) (vn vt vs vh vr : Value) (h0 : vn.oneCell' = true) (h1 : vt.oneCell' = true) (h2 : vs.oneCell' = true) (h3 : vh.oneCell' = true) (h4 : vr.oneCell' = true) : (evC e vn vt vs vh vr).all (·.oneCell') = true := by
 simp only [evC, List.all_toArray, List.all_cons, List.all_nil, h0, h1, h2, h3, h4]
 rfl
abbrev evS (e : Rv.Ev) (a1 : Option Addr) (n1 : Nat) (a2 : Option Addr) (n2 : Nat) (a3 : Option Addr) (n3 : Nat) (a4 : Option Addr) (n4 : Nat) (a5 : Option Addr) (n5 : Nat) : Array Value := evC e (.slice a1 e.names.length n1) (.slice a2 e.targets.length n2) (.slice a3 e.sg.S.length n3) (.slice a4 e.sg.H.length n4) (.slice a5 e.sg.R.length n5)
abbrev evW (e : Rv.Ev) (a1 : Option Addr) (n1 : Nat) (a2 : Option Addr) (n2 : Nat) (a3 : Option Addr) (n3 : Nat) (a4 : Option Addr) (n4 : Nat) (a5 : Option Addr) (n5 : Nat) : Value := .agg (evS e a1 n1 a2 n2 a3 n3 a4 n4 a5 n5)
theorem evS1 (e : Rv.Ev) (a1 : Option Addr) (n1 : Nat) (a2 : Option Addr) (n2 : Nat) (a3 : Option Addr) (n3 : Nat) (a4 : Option Addr) (n4 : Nat) (a5 : Option Addr) (n5 : Nat) : (evS e a1 n1 a2 n2 a3 n3 a4 n4 a5 n5).all (·.oneCell') = true := kax e _ _ _ _ _ rfl rfl rfl rfl rfl
abbrev evZ : Array Value := evC Rv.ev0 (.slice none 0 0) (.slice none 0 0) (.slice none 0 0) (.slice none 0 0) (.slice none 0 0)
theorem ka6 {W : World} {b : Nat} {e : Rv.Ev} {vn vt vs vh vr : Value} {T : TypeId} {fr : Nat × Nat} (h : W.heap[b]? = some (.cells (evC e vn vt vs vh vr) T fr)) :
 W.cell? ⟨b, 0, none⟩ = some (.int .i64 e.kind) ∧ W.cell? ⟨b, 1, none⟩ = some (.string (B e.author)) ∧ W.cell? ⟨b, 2, none⟩ = some (.int .i64 e.number) ∧ W.cell? ⟨b, 3, none⟩ = some vn ∧ W.cell? ⟨b, 4, none⟩ = some (.string (B e.root)) ∧
 W.cell? ⟨b, 5, none⟩ = some (.int .i64 e.bits) ∧ W.cell? ⟨b, 6, none⟩ = some (.int .i64 e.height) ∧ W.cell? ⟨b, 7, none⟩ = some (.string (B e.pkg)) ∧ W.cell? ⟨b, 8, none⟩ = some (.string (B e.digest)) ∧ W.cell? ⟨b, 9, none⟩ = some (.string (B e.question)) ∧
 W.cell? ⟨b, 10, none⟩ = some (.string (B e.scope)) ∧ W.cell? ⟨b, 11, none⟩ = some (.string (B e.answer)) ∧ W.cell? ⟨b, 12, none⟩ = some (.int .i64 e.till) ∧ W.cell? ⟨b, 13, none⟩ = some vt ∧ W.cell? ⟨b, 14, none⟩ = some (.int .i64 e.sg.i) ∧
 W.cell? ⟨b, 15, none⟩ = some vs ∧ W.cell? ⟨b, 16, none⟩ = some vh ∧ W.cell? ⟨b, 17, none⟩ = some vr := by
 refine ⟨?_, ?_, ?_, ?_, ?_, ?_, ?_, ?_, ?_, ?_, ?_, ?_, ?_, ?_, ?_, ?_, ?_, ?_⟩ <;> (rw [kab h]; rfl)
theorem kbw {o : Oper} {ev : Operand → Value} {x : Operand} (ho : o.op = .load 45 x) {W : World} {b : Nat} {A : Array Value} (hA : A.size = 18) (hx : ev x = .pointer (some ⟨b, 0, none⟩)) (h : W.heap[b]? = some (.cells A 45 (0, 0))) :
 (execOp ev o).run Tryz.prog W = .ok (.value (.agg A)) W := by
 have hr := run_loadVar_row (P := Tryz.prog) W b 45 45 A (0, 0) _ h Tryz.underlying45 rfl (by rw [hA]; kernel_rfl)
 unfold execOp
 simp only [ho, hx, Instr.loadAt, Instr.sureAddr, Sem.run_bind, Sem.run_pure, Result.andThen_ok, hr]
theorem kbo {S : Nat → Prop} {w w' : World} (h : ka1 S w.drew w') : ka1 S w w' := ⟨h.os, h.tape, h.output, h.size, h.block⟩
theorem kuj {S : Nat → Prop} {w w' : World} {n : Nat} (h : ka1 S (w.drewN n) w') : ka1 S w w' := ⟨h.os, h.tape, h.output, h.size, h.block⟩
theorem kl8 {W : World} {b : Nat} {T : TypeId} (h : W.heap[b]? = some (.cells evZ T (0, 0))) : ∃ old : Array Value, W.heap[b]? = some (.cells old T (0, 0)) ∧ old.size = 18 := ⟨evZ, h, rfl⟩
theorem km9 (e : Rv.Ev) (na ta sa ha ra : Option Addr) (nc tc sc hc rc : Nat) (w : World) (h1 : e.kind ≠ 1) (h2 : e.kind ≠ 2) (h3 : e.kind ≠ 3) (h4 : e.kind ≠ 4) (h5 : e.kind ≠ 5):
 Calls Tryz.prog 90 #[evW e na nc ta tc sa sc ha hc ra rc] w (kfm w (kb9 e) (.slice na e.names.length nc) (kdp e.kind (.slice ta e.targets.length tc)) (.slice sa e.sg.S.length sc) (.slice ha e.sg.H.length hc) (.slice ra e.sg.R.length rc) (okF e)) := by
 have hre : kb9 e = e := by unfold kb9; simp [h1, h2, h3, h4, h5]
 have hte : kdp e.kind (.slice ta e.targets.length tc) = .slice ta e.targets.length tc := by unfold kdp; simp [h4, h5]
 have ho : okF e = false := by unfold okF Rv.kindB; simp [h1, h2, h3, h4, h5]
 rw [hre, hte, ho]
 clear hre hte ho
 have d1 : (e.kind == 1) = false := by simpa using h1
 have d2 : (e.kind == 2) = false := by simpa using h2
 have d3 : (e.kind == 3) = false := by simpa using h3
 have d4 : (e.kind == 4) = false := by simpa using h4
 have d5 : (e.kind == 5) = false := by simpa using h5
 clear h1 h2 h3 h4 h5
 obtain ⟨sk3, -⟩ : ∃ _ : Nat, True := ⟨0, trivial⟩
 all_goals (
  have hb3 : Below w.heap.size w (((w.alloc (.cells (evS e na nc ta tc sa sc ha hc ra rc) 45)).alloc (.cells evZ 45)).alloc (.cells evZ 45)) := (((Below.refl _ _).alloc (Nat.le_refl _) _).alloc (by simp) _).alloc (by simp; omega) _
  have HB3 := hdd hb3
  clear hb3
  have HE := hdd (show ((w.alloc (.cells (evS e na nc ta tc sa sc ha hc ra rc) 45)).alloc (.cells evZ 45)).heap[w.heap.size]? = _ from kaq (kak w (.cells (evS e na nc ta tc sa sc ha hc ra rc) 45)))
  have HO := hdd (evS1 e na nc ta tc sa sc ha hc ra rc)
  go_enter Tryz.func90, Tryz.ntmps90
  go_upto_region 2 with (first
   | (refine wpList_load_row rfl 45 _ rfl w.heap.size rfl 45 (evS e na nc ta tc sa sc ha hc ra rc) (0, 0) _ HE.out rfl rfl (by kernel_rfl) ?_)
   | (refine kaa rfl 45 _ _ rfl (w.heap.size + 1 + 1) rfl (evS e na nc ta tc sa sc ha hc ra rc) rfl 45 evZ (kaj (by simp) rfl) (by kernel_rfl) rfl HO.out ?_
      intro w1 hw4 hk1
      have HB1 := hdd (HB3.out.trans (hk1.below (B := w.heap.size) (by simp; omega) (fun k hk e => by have : k = _ := e; omega)))
      have hw1 : w1.heap[w.heap.size]? = some (.cells (evS e na nc ta tc sa sc ha hc ra rc) 45 (0, 0)) := (hk1.block _ (by simp; omega) (fun e => by have : w.heap.size = _ := e; omega)).trans (kaq HE.out)
      have hw2 : w1.heap[w.heap.size + 1]? = some (.cells evZ 45 (0, 0)) := (hk1.block _ (by simp) (fun e => by have : w.heap.size + 1 = _ := e; omega)).trans (kaq (kaj (by simp) rfl))
      obtain ⟨e0, e1, e2, e3, e4, e5, e6, e7, e8, e9, e10, e11, e12, e13, e14, e15, e16, e17⟩ := ka6 hw1
      obtain ⟨r0, r1, r2, r3, r4, r5, r6, r7, r8, r9, r10, r11, r12, r13, r14, r15, r16, r17⟩ := ka6 hw4
      have rf := kai hw4
      have HW1 := hdd hw1
      have HW2 := hdd hw2
      have HW4 := hdd hw4
      clear hw1 hw2 hw4 hk1))
  have HC := hdd HW4.out
  have HK := hdd (ka1.refl (Licit.One (w.heap.size + 1 + 1)) w1)
  go_upto_region 18 with (first | (refine kae rfl _ _ _ rfl (w.heap.size + 1 + 1) _ rfl _ rfl rfl rfl _ 45 HC.out (by simp) (by kernel_rfl) ?_; intro wz hwz hkz; have HCn := hdd hwz; have HKn := hdd (HK.out.trans hkz); clear hwz hkz HC HK; have HC := HCn; have HK := HKn; clear HCn HKn; obtain ⟨e0, -, e2, e3, -⟩ := ka6 ((HK.out.block _ (kac HW1.out) (fun e => by have : w.heap.size = w.heap.size + 1 + 1 := e; omega)).trans HW1.out)) | (refine kby rfl _ _ _ rfl (w.heap.size + 1 + 1) _ #[.int .i64 0, .int .i64 0] rfl rfl _ 45 HC.out (by simp) (by kernel_rfl) rfl ?_; intro wz hwz hkz; have HCn := hdd hwz; have HKn := hdd (HK.out.trans hkz); clear hwz hkz HC HK; have HC := HCn; have HK := HKn; clear HCn HKn) | fail)
  clear e0 e1 e2 e3 e4 e5 e6 e7 e8 e9 e10 e11 e12 e13 e14 e15 e16 e17 r0 r1 r2 r3 r4 r5 r6 r7 r8 r9 r10 r11 r12 r13 r14 r15 r16 r17 rf
  have hB1' := HB1.out.trans (HK.out.below (B := w.heap.size) HB1.out.size (fun k hk e => by have : k = w.heap.size + 1 + 1 := e; omega))
  have hX1 := (HK.out.block _ (kac HW1.out) (fun e => by have : w.heap.size = w.heap.size + 1 + 1 := e; omega)).trans HW1.out
  have hR := HC.out.trans (show _ = some (Obj.cells (evS e na nc ta tc sa sc ha hc ra rc) 45 (0, 0)) by kernel_rfl)
  have hZ := (HK.out.block _ (kac HW2.out) (fun e => by have : w.heap.size + 1 = w.heap.size + 1 + 1 := e; omega)).trans HW2.out
  clear HC HK
  obtain ⟨e0', -, e2', e3', -⟩ := ka6 hX1
  have HOR := hdd (evS1 e na nc ta tc sa sc ha hc ra rc)
  have HB1' := hdd hB1'
  have HS := hdd (And.intro (And.intro e0' (And.intro e2' e3')) (And.intro hR (kl8 hZ)))
  clear hB1' hX1 hR hZ e0' e2' e3'
  refine kat (S := fun W : World => (W.cell? ⟨w.heap.size, 0, none⟩ = some (.int .i64 e.kind) ∧ W.cell? ⟨w.heap.size, 2, none⟩ = some (.int .i64 e.number) ∧ W.cell? ⟨w.heap.size, 3, none⟩ = some (.slice na e.names.length nc)) ∧ W.heap[w.heap.size + 1 + 1]? = some (.cells (evS e na nc ta tc sa sc ha hc ra rc) 45 (0, 0)) ∧ ∃ old, W.heap[w.heap.size + 1]? = some (.cells old 45 (0, 0)) ∧ old.size = 18) (by kernel_rfl) HS.out (fun hHeld => ?_)
  simp only [List.toList_toArray, len, kbc]
  refine tkx 0 (.agg (evS e na nc ta tc sa sc ha hc ra rc)) rfl rfl (by kernel_rfl) (fun _ _ _ h => h) (by assumption) ?_ ?_
  · intro W hW; exact kbw rfl rfl rfl hW.2.1
  simp only [Act.put, s1, s2, s3]
  (iterate 2 (refine tk 1 rfl rfl rfl (by kernel_rfl) (fun _ _ _ h => h) (by intro W hW; (try dsimp only at hW); go_simp <;> with_reducible rfl) (by assumption) ?_; simp only [Act.put, s1, s2, s3]))
  first
   | (clear sk3; (iterate 14 (refine ps 3 rfl rfl rfl (by kernel_rfl) (fun _ _ _ h => h) (by assumption) ?_; simp only [Act.put, s1, s2, s3])))
   | (clear sk11; (iterate 8 (refine tk 3 rfl rfl rfl (by kernel_rfl) (fun _ _ _ h => h) (by intro W hW; (try dsimp only at hW); go_simp <;> with_reducible rfl) (by assumption) ?_; simp only [Act.put, s1, s2, s3])); (iterate 4 (refine ps 11 rfl rfl rfl (by kernel_rfl) (fun _ _ _ h => h) (by assumption) ?_; simp only [Act.put, s1, s2, s3])); (iterate 2 (refine tk 15 rfl rfl rfl (by kernel_rfl) (fun _ _ _ h => h) (by intro W hW; (try dsimp only at hW); go_simp <;> with_reducible rfl) (by assumption) ?_; simp only [Act.put, s1, s2, s3])))
   | (clear sk7; (iterate 4 (refine tk 3 rfl rfl rfl (by kernel_rfl) (fun _ _ _ h => h) (by intro W hW; (try dsimp only at hW); go_simp <;> with_reducible rfl) (by assumption) ?_; simp only [Act.put, s1, s2, s3])); (iterate 9 (refine ps 7 rfl rfl rfl (by kernel_rfl) (fun _ _ _ h => h) (by assumption) ?_; simp only [Act.put, s1, s2, s3])); (refine tk 16 rfl rfl rfl (by kernel_rfl) (fun _ _ _ h => h) (by intro W hW; (try dsimp only at hW); go_simp <;> with_reducible rfl) (by assumption) ?_; simp only [Act.put, s1, s2, s3]))
   | ((iterate 14 (refine tk 3 rfl rfl rfl (by kernel_rfl) (fun _ _ _ h => h) (by intro W hW; (try dsimp only at hW); go_simp <;> with_reducible rfl) (by assumption) ?_; simp only [Act.put, s1, s2, s3])))
  (refine tk 17 rfl rfl rfl (by kernel_rfl) (fun _ _ _ h => h) (by intro W hW; (try dsimp only at hW); go_simp <;> with_reducible rfl) (by assumption) ?_; simp only [Act.put, s1, s2, s3])
  refine wpAnyH_ready (rs := [18]) (by kernel_rfl) (by simp) ?_
  refine ar1 rfl (fun K hK => ?_)
  obtain ⟨⟨q0, q2, q3⟩, q4, old, q5, q6⟩ := hHeld
  refine kas rfl 45 _ _ rfl (w.heap.size + 1) rfl (evS e na nc ta tc sa sc ha hc ra rc) rfl 45 old q5 (by kernel_rfl) q6 HOR.out ?_
  intro w2 hw2 hk2
  have hne1 : ¬ Licit.One (w.heap.size + 1) w.heap.size := fun e => by have : w.heap.size = w.heap.size + 1 := e; omega
  have hne2 : ¬ Licit.One (w.heap.size + 1) (w.heap.size + 1 + 1) := fun e => by have : w.heap.size + 1 + 1 = w.heap.size + 1 := e; omega
  refine hK.out _ _ ⟨⟨(hk2.cell (World.block_lt_of_cell? _ _ q0) hne1).trans q0, (hk2.cell (World.block_lt_of_cell? _ _ q0) hne1).trans q2, (hk2.cell (World.block_lt_of_cell? _ _ q0) hne1).trans q3⟩, (hk2.block _ (kac q4) hne2).trans q4, _, hw2, rfl⟩ (fun hHeld => ?_)
  have HW := hdd hw2
  have HB := hdd (HB1'.out.trans ((kbo hk2).below (B := w.heap.size) HB1'.out.size (fun k hk e => by have : k = _ := e; omega)))
  clear hK K hw2 hk2 q0 q2 q3 q4 q5 q6 hne1 hne2
  try simp only [Act.put, s1, s2, s3]
  (refine tk 19 rfl rfl rfl (by kernel_rfl) (fun _ _ _ h => h) (by intro W hW; (try dsimp only at hW); go_simp <;> with_reducible rfl) (by assumption) ?_; simp only [Act.put, s1, s2, s3])
  refine wpAnyH_done (by kernel_rfl) ?_ _
  simp only [Exit.then]
  go_wp2
  refine kam rfl (w.heap.size + 1) 45 _ (0, 0) _ rfl HW.out rfl rfl (by kernel_rfl) rfl ?_
  exact ⟨rfl, HB.out⟩
 )
theorem kpg (e : Rv.Ev) (na ta sa ha ra : Option Addr) (nc tc sc hc rc : Nat) (w : World) (hk : e.kind = 1) :
 Calls Tryz.prog 90 #[evW e na nc ta tc sa sc ha hc ra rc] w (kfm w (kb9 e) (.slice na e.names.length nc) (kdp e.kind (.slice ta e.targets.length tc)) (.slice sa e.sg.S.length sc) (.slice ha e.sg.H.length hc) (.slice ra e.sg.R.length rc) (okF e)) := by
 have hre : kb9 e = { e with root := [], bits := 0, height := 0 } := by unfold kb9; rw [if_pos hk]
 have hte : kdp e.kind (.slice ta e.targets.length tc) = .slice ta e.targets.length tc := by unfold kdp; rw [hk]; rfl
 have ho : okF e = (decide (e.number = 0) && Rv.digB e.root && kcp e.bits e.height) := by unfold okF Rv.kindB; simp [hk]
 rw [hre, hte, ho]
 clear hre hte ho
 have d1 : (e.kind == 1) = true := by simpa using hk
 have k1 : decide (e.kind = 1) = true := decide_eq_true hk
 have q := fun W => kgq e.root W
 have q2 : ∃ F : Int, ((kcp e.bits e.height = true ∧ F = 0) ∨ (kcp e.bits e.height = false ∧ F = 3)) ∧ ∀ W, Calls Tryz.prog 140 #[.agg #[.int .i64 e.bits, .int .i64 e.height]] W fun en w' => en = .returned (.int .i64 F) ∧ Below W.heap.size W w' := by
  cases c3 : kcp e.bits e.height with
  | true => exact ⟨0, .inl ⟨rfl, rfl⟩, fun W => khq e.bits e.height W c3⟩
  | false => exact ⟨3, .inr ⟨rfl, rfl⟩, fun W => kqx e.bits e.height W c3⟩
 obtain ⟨F, hF, q2⟩ := q2
 clear hk
 have dn : (e.number == 0) = decide (e.number = 0) := by by_cases c : e.number = 0 <;> simp [c]
 generalize decide (e.number = 0) = R0 at *
 generalize Rv.digB e.root = R1 at *
 generalize kcp e.bits e.height = R2 at *
 have hc : ((R0 = false ∧ (∃ _ : Nat, True)) ∨ (R0 = true ∧ R1 = false ∧ (∃ _ : Nat, True))) ∨ (R0 = true ∧ R1 = true ∧ R2 = true ∧ F = 0 ∧ (∃ _ : Nat, True)) ∨ (R0 = true ∧ R1 = true ∧ R2 = false ∧ F = 3 ∧ (∃ _ : Nat, True)) := by
  rcases hF with ⟨rfl, rfl⟩ | ⟨rfl, rfl⟩ <;> cases R0 <;> cases R1 <;> simp
 clear hF
 rcases hc with hc | hc
 · rcases hc with ⟨rfl, sk3, -⟩ | ⟨rfl, rfl, sk3, -⟩
   all_goals (
    have hb3 : Below w.heap.size w (((w.alloc (.cells (evS e na nc ta tc sa sc ha hc ra rc) 45)).alloc (.cells evZ 45)).alloc (.cells evZ 45)) := (((Below.refl _ _).alloc (Nat.le_refl _) _).alloc (by simp) _).alloc (by simp; omega) _
    have HB3 := hdd hb3
    clear hb3
    have HE := hdd (show ((w.alloc (.cells (evS e na nc ta tc sa sc ha hc ra rc) 45)).alloc (.cells evZ 45)).heap[w.heap.size]? = _ from kaq (kak w (.cells (evS e na nc ta tc sa sc ha hc ra rc) 45)))
    have HO := hdd (evS1 e na nc ta tc sa sc ha hc ra rc)
    go_enter Tryz.func90, Tryz.ntmps90
    go_upto_region 2 with (first
     | (refine wpList_load_row rfl 45 _ rfl w.heap.size rfl 45 (evS e na nc ta tc sa sc ha hc ra rc) (0, 0) _ HE.out rfl rfl (by kernel_rfl) ?_)
     | (refine kaa rfl 45 _ _ rfl (w.heap.size + 1 + 1) rfl (evS e na nc ta tc sa sc ha hc ra rc) rfl 45 evZ (kaj (by simp) rfl) (by kernel_rfl) rfl HO.out ?_
        intro w1 hw4 hk1
        have HB1 := hdd (HB3.out.trans (hk1.below (B := w.heap.size) (by simp; omega) (fun k hk e => by have : k = _ := e; omega)))
        have hw1 : w1.heap[w.heap.size]? = some (.cells (evS e na nc ta tc sa sc ha hc ra rc) 45 (0, 0)) := (hk1.block _ (by simp; omega) (fun e => by have : w.heap.size = _ := e; omega)).trans (kaq HE.out)
        have hw2 : w1.heap[w.heap.size + 1]? = some (.cells evZ 45 (0, 0)) := (hk1.block _ (by simp) (fun e => by have : w.heap.size + 1 = _ := e; omega)).trans (kaq (kaj (by simp) rfl))
        obtain ⟨e0, e1, e2, e3, e4, e5, e6, e7, e8, e9, e10, e11, e12, e13, e14, e15, e16, e17⟩ := ka6 hw1
        obtain ⟨r0, r1, r2, r3, r4, r5, r6, r7, r8, r9, r10, r11, r12, r13, r14, r15, r16, r17⟩ := ka6 hw4
        have rf := kai hw4
        have HW1 := hdd hw1
        have HW2 := hdd hw2
        have HW4 := hdd hw4
        clear hw1 hw2 hw4 hk1))
    go_upto_region 18 with (first | (go_at_call 160; (with_reducible refine (q _).mono ?_); rintro en w' ⟨rfl, rfl⟩) | fail)
    have HC := hdd (set_of (set_of (set_of HW4.out 4 (.string ⟨#[]⟩)) 5 (.int .i64 0)) 6 (.int .i64 0))
    have HK := hdd (((kau (w.heap.size + 1 + 1) 4 w1 (.string ⟨#[]⟩)).trans (kau (w.heap.size + 1 + 1) 5 _ (.int .i64 0))).trans (kau (w.heap.size + 1 + 1) 6 _ (.int .i64 0)))
    clear e0 e1 e2 e3 e4 e5 e6 e7 e8 e9 e10 e11 e12 e13 e14 e15 e16 e17 r0 r1 r2 r3 r4 r5 r6 r7 r8 r9 r10 r11 r12 r13 r14 r15 r16 r17 rf
    have hB1' := HB1.out.trans (HK.out.below (B := w.heap.size) HB1.out.size (fun k hk e => by have : k = w.heap.size + 1 + 1 := e; omega))
    have hX1 := (HK.out.block _ (kac HW1.out) (fun e => by have : w.heap.size = w.heap.size + 1 + 1 := e; omega)).trans HW1.out
    have hR := HC.out.trans (show _ = some (Obj.cells (evC { e with root := [], bits := 0, height := 0 } (.slice na e.names.length nc) (.slice ta e.targets.length tc) (.slice sa e.sg.S.length sc) (.slice ha e.sg.H.length hc) (.slice ra e.sg.R.length rc)) 45 (0, 0)) by kernel_rfl)
    have hZ := (HK.out.block _ (kac HW2.out) (fun e => by have : w.heap.size + 1 = w.heap.size + 1 + 1 := e; omega)).trans HW2.out
    clear HC HK
    obtain ⟨e0', -, e2', e3', -⟩ := ka6 hX1
    have HOR := hdd (kax { e with root := [], bits := 0, height := 0 } (.slice na e.names.length nc) (.slice ta e.targets.length tc) (.slice sa e.sg.S.length sc) (.slice ha e.sg.H.length hc) (.slice ra e.sg.R.length rc) rfl rfl rfl rfl rfl)
    have HB1' := hdd hB1'
    have HS := hdd (And.intro (And.intro e0' (And.intro e2' e3')) (And.intro hR (kl8 hZ)))
    clear hB1' hX1 hR hZ e0' e2' e3'
    refine kat (S := fun W : World => (W.cell? ⟨w.heap.size, 0, none⟩ = some (.int .i64 e.kind) ∧ W.cell? ⟨w.heap.size, 2, none⟩ = some (.int .i64 e.number) ∧ W.cell? ⟨w.heap.size, 3, none⟩ = some (.slice na e.names.length nc)) ∧ W.heap[w.heap.size + 1 + 1]? = some (.cells (evC { e with root := [], bits := 0, height := 0 } (.slice na e.names.length nc) (.slice ta e.targets.length tc) (.slice sa e.sg.S.length sc) (.slice ha e.sg.H.length hc) (.slice ra e.sg.R.length rc)) 45 (0, 0)) ∧ ∃ old, W.heap[w.heap.size + 1]? = some (.cells old 45 (0, 0)) ∧ old.size = 18) (by kernel_rfl) HS.out (fun hHeld => ?_)
    simp only [List.toList_toArray, len, kbc]
    refine tkx 0 (.agg (evC { e with root := [], bits := 0, height := 0 } (.slice na e.names.length nc) (.slice ta e.targets.length tc) (.slice sa e.sg.S.length sc) (.slice ha e.sg.H.length hc) (.slice ra e.sg.R.length rc))) rfl rfl (by kernel_rfl) (fun _ _ _ h => h) (by assumption) ?_ ?_
    · intro W hW; exact kbw rfl rfl rfl hW.2.1
    simp only [Act.put, s1, s2, s3]
    (iterate 2 (refine tk 1 rfl rfl rfl (by kernel_rfl) (fun _ _ _ h => h) (by intro W hW; (try dsimp only at hW); go_simp <;> with_reducible rfl) (by assumption) ?_; simp only [Act.put, s1, s2, s3]))
    first
     | (clear sk3; (iterate 14 (refine ps 3 rfl rfl rfl (by kernel_rfl) (fun _ _ _ h => h) (by assumption) ?_; simp only [Act.put, s1, s2, s3])))
     | (clear sk11; (iterate 8 (refine tk 3 rfl rfl rfl (by kernel_rfl) (fun _ _ _ h => h) (by intro W hW; (try dsimp only at hW); go_simp <;> with_reducible rfl) (by assumption) ?_; simp only [Act.put, s1, s2, s3])); (iterate 4 (refine ps 11 rfl rfl rfl (by kernel_rfl) (fun _ _ _ h => h) (by assumption) ?_; simp only [Act.put, s1, s2, s3])); (iterate 2 (refine tk 15 rfl rfl rfl (by kernel_rfl) (fun _ _ _ h => h) (by intro W hW; (try dsimp only at hW); go_simp <;> with_reducible rfl) (by assumption) ?_; simp only [Act.put, s1, s2, s3])))
     | (clear sk7; (iterate 4 (refine tk 3 rfl rfl rfl (by kernel_rfl) (fun _ _ _ h => h) (by intro W hW; (try dsimp only at hW); go_simp <;> with_reducible rfl) (by assumption) ?_; simp only [Act.put, s1, s2, s3])); (iterate 9 (refine ps 7 rfl rfl rfl (by kernel_rfl) (fun _ _ _ h => h) (by assumption) ?_; simp only [Act.put, s1, s2, s3])); (refine tk 16 rfl rfl rfl (by kernel_rfl) (fun _ _ _ h => h) (by intro W hW; (try dsimp only at hW); go_simp <;> with_reducible rfl) (by assumption) ?_; simp only [Act.put, s1, s2, s3]))
     | ((iterate 14 (refine tk 3 rfl rfl rfl (by kernel_rfl) (fun _ _ _ h => h) (by intro W hW; (try dsimp only at hW); go_simp <;> with_reducible rfl) (by assumption) ?_; simp only [Act.put, s1, s2, s3])))
    (refine tk 17 rfl rfl rfl (by kernel_rfl) (fun _ _ _ h => h) (by intro W hW; (try dsimp only at hW); go_simp <;> with_reducible rfl) (by assumption) ?_; simp only [Act.put, s1, s2, s3])
    refine wpAnyH_ready (rs := [18]) (by kernel_rfl) (by simp) ?_
    refine ar1 rfl (fun K hK => ?_)
    obtain ⟨⟨q0, q2, q3⟩, q4, old, q5, q6⟩ := hHeld
    refine kas rfl 45 _ _ rfl (w.heap.size + 1) rfl (evC { e with root := [], bits := 0, height := 0 } (.slice na e.names.length nc) (.slice ta e.targets.length tc) (.slice sa e.sg.S.length sc) (.slice ha e.sg.H.length hc) (.slice ra e.sg.R.length rc)) rfl 45 old q5 (by kernel_rfl) q6 HOR.out ?_
    intro w2 hw2 hk2
    have hne1 : ¬ Licit.One (w.heap.size + 1) w.heap.size := fun e => by have : w.heap.size = w.heap.size + 1 := e; omega
    have hne2 : ¬ Licit.One (w.heap.size + 1) (w.heap.size + 1 + 1) := fun e => by have : w.heap.size + 1 + 1 = w.heap.size + 1 := e; omega
    refine hK.out _ _ ⟨⟨(hk2.cell (World.block_lt_of_cell? _ _ q0) hne1).trans q0, (hk2.cell (World.block_lt_of_cell? _ _ q0) hne1).trans q2, (hk2.cell (World.block_lt_of_cell? _ _ q0) hne1).trans q3⟩, (hk2.block _ (kac q4) hne2).trans q4, _, hw2, rfl⟩ (fun hHeld => ?_)
    have HW := hdd hw2
    have HB := hdd (HB1'.out.trans ((kbo hk2).below (B := w.heap.size) HB1'.out.size (fun k hk e => by have : k = _ := e; omega)))
    clear hK K hw2 hk2 q0 q2 q3 q4 q5 q6 hne1 hne2
    try simp only [Act.put, s1, s2, s3]
    (refine tk 19 rfl rfl rfl (by kernel_rfl) (fun _ _ _ h => h) (by intro W hW; (try dsimp only at hW); go_simp <;> with_reducible rfl) (by assumption) ?_; simp only [Act.put, s1, s2, s3])
    refine wpAnyH_done (by kernel_rfl) ?_ _
    simp only [Exit.then]
    go_wp2
    refine kam rfl (w.heap.size + 1) 45 _ (0, 0) _ rfl HW.out rfl rfl (by kernel_rfl) rfl ?_
    exact ⟨rfl, HB.out⟩
   )
 · rcases hc with ⟨rfl, rfl, rfl, rfl, sk7, -⟩ | ⟨rfl, rfl, rfl, rfl, sk3, -⟩
   all_goals (
    have hb3 : Below w.heap.size w (((w.alloc (.cells (evS e na nc ta tc sa sc ha hc ra rc) 45)).alloc (.cells evZ 45)).alloc (.cells evZ 45)) := (((Below.refl _ _).alloc (Nat.le_refl _) _).alloc (by simp) _).alloc (by simp; omega) _
    have HB3 := hdd hb3
    clear hb3
    have HE := hdd (show ((w.alloc (.cells (evS e na nc ta tc sa sc ha hc ra rc) 45)).alloc (.cells evZ 45)).heap[w.heap.size]? = _ from kaq (kak w (.cells (evS e na nc ta tc sa sc ha hc ra rc) 45)))
    have HO := hdd (evS1 e na nc ta tc sa sc ha hc ra rc)
    go_enter Tryz.func90, Tryz.ntmps90
    go_upto_region 2 with (first
     | (refine wpList_load_row rfl 45 _ rfl w.heap.size rfl 45 (evS e na nc ta tc sa sc ha hc ra rc) (0, 0) _ HE.out rfl rfl (by kernel_rfl) ?_)
     | (refine kaa rfl 45 _ _ rfl (w.heap.size + 1 + 1) rfl (evS e na nc ta tc sa sc ha hc ra rc) rfl 45 evZ (kaj (by simp) rfl) (by kernel_rfl) rfl HO.out ?_
        intro w1 hw4 hk1
        have HB1 := hdd (HB3.out.trans (hk1.below (B := w.heap.size) (by simp; omega) (fun k hk e => by have : k = _ := e; omega)))
        have hw1 : w1.heap[w.heap.size]? = some (.cells (evS e na nc ta tc sa sc ha hc ra rc) 45 (0, 0)) := (hk1.block _ (by simp; omega) (fun e => by have : w.heap.size = _ := e; omega)).trans (kaq HE.out)
        have hw2 : w1.heap[w.heap.size + 1]? = some (.cells evZ 45 (0, 0)) := (hk1.block _ (by simp) (fun e => by have : w.heap.size + 1 = _ := e; omega)).trans (kaq (kaj (by simp) rfl))
        obtain ⟨e0, e1, e2, e3, e4, e5, e6, e7, e8, e9, e10, e11, e12, e13, e14, e15, e16, e17⟩ := ka6 hw1
        obtain ⟨r0, r1, r2, r3, r4, r5, r6, r7, r8, r9, r10, r11, r12, r13, r14, r15, r16, r17⟩ := ka6 hw4
        have rf := kai hw4
        have HW1 := hdd hw1
        have HW2 := hdd hw2
        have HW4 := hdd hw4
        clear hw1 hw2 hw4 hk1))
    go_wp2_with (first | (go_at_call 160; (with_reducible refine (q _).mono ?_); rintro en w' ⟨rfl, rfl⟩) | fail)
    refine (q2 _).mono ?_
    rintro en w2 ⟨rfl, hb⟩
    have HBn := hdd (HB1.out.next hb)
    have HWa := bhh hb HW1
    have HWb := bhh hb HW2
    have HWc := bhh hb HW4
    clear e0 e1 e2 e3 e4 e5 e6 e7 e8 e9 e10 e11 e12 e13 e14 e15 e16 e17 r0 r1 r2 r3 r4 r5 r6 r7 r8 r9 r10 r11 r12 r13 r14 r15 r16 r17 rf hb HB1 HW1 HW2 HW4
    have HB1 := HBn
    have HW1 := HWa
    have HW2 := HWb
    have HW4 := HWc
    clear HBn HWa HWb HWc
    obtain ⟨e0, e1, e2, e3, e4, e5, e6, e7, e8, e9, e10, e11, e12, e13, e14, e15, e16, e17⟩ := ka6 HW1.out
    obtain ⟨r0, r1, r2, r3, r4, r5, r6, r7, r8, r9, r10, r11, r12, r13, r14, r15, r16, r17⟩ := ka6 HW4.out
    have rf := kai HW4.out
    go_upto_region 18 with fail
    have HC := hdd (set_of (set_of (set_of HW4.out 4 (.string ⟨#[]⟩)) 5 (.int .i64 0)) 6 (.int .i64 0))
    have HK := hdd (((kau (w.heap.size + 1 + 1) 4 w2 (.string ⟨#[]⟩)).trans (kau (w.heap.size + 1 + 1) 5 _ (.int .i64 0))).trans (kau (w.heap.size + 1 + 1) 6 _ (.int .i64 0)))
    clear e0 e1 e2 e3 e4 e5 e6 e7 e8 e9 e10 e11 e12 e13 e14 e15 e16 e17 r0 r1 r2 r3 r4 r5 r6 r7 r8 r9 r10 r11 r12 r13 r14 r15 r16 r17 rf
    have hB1' := HB1.out.trans (HK.out.below (B := w.heap.size) HB1.out.size (fun k hk e => by have : k = w.heap.size + 1 + 1 := e; omega))
    have hX1 := (HK.out.block _ (kac HW1.out) (fun e => by have : w.heap.size = w.heap.size + 1 + 1 := e; omega)).trans HW1.out
    have hR := HC.out.trans (show _ = some (Obj.cells (evC { e with root := [], bits := 0, height := 0 } (.slice na e.names.length nc) (.slice ta e.targets.length tc) (.slice sa e.sg.S.length sc) (.slice ha e.sg.H.length hc) (.slice ra e.sg.R.length rc)) 45 (0, 0)) by kernel_rfl)
    have hZ := (HK.out.block _ (kac HW2.out) (fun e => by have : w.heap.size + 1 = w.heap.size + 1 + 1 := e; omega)).trans HW2.out
    clear HC HK
    obtain ⟨e0', -, e2', e3', -⟩ := ka6 hX1
    have HOR := hdd (kax { e with root := [], bits := 0, height := 0 } (.slice na e.names.length nc) (.slice ta e.targets.length tc) (.slice sa e.sg.S.length sc) (.slice ha e.sg.H.length hc) (.slice ra e.sg.R.length rc) rfl rfl rfl rfl rfl)
    have HB1' := hdd hB1'
    have HS := hdd (And.intro (And.intro e0' (And.intro e2' e3')) (And.intro hR (kl8 hZ)))
    clear hB1' hX1 hR hZ e0' e2' e3'
    refine kat (S := fun W : World => (W.cell? ⟨w.heap.size, 0, none⟩ = some (.int .i64 e.kind) ∧ W.cell? ⟨w.heap.size, 2, none⟩ = some (.int .i64 e.number) ∧ W.cell? ⟨w.heap.size, 3, none⟩ = some (.slice na e.names.length nc)) ∧ W.heap[w.heap.size + 1 + 1]? = some (.cells (evC { e with root := [], bits := 0, height := 0 } (.slice na e.names.length nc) (.slice ta e.targets.length tc) (.slice sa e.sg.S.length sc) (.slice ha e.sg.H.length hc) (.slice ra e.sg.R.length rc)) 45 (0, 0)) ∧ ∃ old, W.heap[w.heap.size + 1]? = some (.cells old 45 (0, 0)) ∧ old.size = 18) (by kernel_rfl) HS.out (fun hHeld => ?_)
    simp only [List.toList_toArray, len, kbc]
    refine tkx 0 (.agg (evC { e with root := [], bits := 0, height := 0 } (.slice na e.names.length nc) (.slice ta e.targets.length tc) (.slice sa e.sg.S.length sc) (.slice ha e.sg.H.length hc) (.slice ra e.sg.R.length rc))) rfl rfl (by kernel_rfl) (fun _ _ _ h => h) (by assumption) ?_ ?_
    · intro W hW; exact kbw rfl rfl rfl hW.2.1
    simp only [Act.put, s1, s2, s3]
    (iterate 2 (refine tk 1 rfl rfl rfl (by kernel_rfl) (fun _ _ _ h => h) (by intro W hW; (try dsimp only at hW); go_simp <;> with_reducible rfl) (by assumption) ?_; simp only [Act.put, s1, s2, s3]))
    first
     | (clear sk3; (iterate 14 (refine ps 3 rfl rfl rfl (by kernel_rfl) (fun _ _ _ h => h) (by assumption) ?_; simp only [Act.put, s1, s2, s3])))
     | (clear sk11; (iterate 8 (refine tk 3 rfl rfl rfl (by kernel_rfl) (fun _ _ _ h => h) (by intro W hW; (try dsimp only at hW); go_simp <;> with_reducible rfl) (by assumption) ?_; simp only [Act.put, s1, s2, s3])); (iterate 4 (refine ps 11 rfl rfl rfl (by kernel_rfl) (fun _ _ _ h => h) (by assumption) ?_; simp only [Act.put, s1, s2, s3])); (iterate 2 (refine tk 15 rfl rfl rfl (by kernel_rfl) (fun _ _ _ h => h) (by intro W hW; (try dsimp only at hW); go_simp <;> with_reducible rfl) (by assumption) ?_; simp only [Act.put, s1, s2, s3])))
     | (clear sk7; (iterate 4 (refine tk 3 rfl rfl rfl (by kernel_rfl) (fun _ _ _ h => h) (by intro W hW; (try dsimp only at hW); go_simp <;> with_reducible rfl) (by assumption) ?_; simp only [Act.put, s1, s2, s3])); (iterate 9 (refine ps 7 rfl rfl rfl (by kernel_rfl) (fun _ _ _ h => h) (by assumption) ?_; simp only [Act.put, s1, s2, s3])); (refine tk 16 rfl rfl rfl (by kernel_rfl) (fun _ _ _ h => h) (by intro W hW; (try dsimp only at hW); go_simp <;> with_reducible rfl) (by assumption) ?_; simp only [Act.put, s1, s2, s3]))
     | ((iterate 14 (refine tk 3 rfl rfl rfl (by kernel_rfl) (fun _ _ _ h => h) (by intro W hW; (try dsimp only at hW); go_simp <;> with_reducible rfl) (by assumption) ?_; simp only [Act.put, s1, s2, s3])))
    (refine tk 17 rfl rfl rfl (by kernel_rfl) (fun _ _ _ h => h) (by intro W hW; (try dsimp only at hW); go_simp <;> with_reducible rfl) (by assumption) ?_; simp only [Act.put, s1, s2, s3])
    refine wpAnyH_ready (rs := [18]) (by kernel_rfl) (by simp) ?_
    refine ar1 rfl (fun K hK => ?_)
    obtain ⟨⟨q0, q2, q3⟩, q4, old, q5, q6⟩ := hHeld
    refine kas rfl 45 _ _ rfl (w.heap.size + 1) rfl (evC { e with root := [], bits := 0, height := 0 } (.slice na e.names.length nc) (.slice ta e.targets.length tc) (.slice sa e.sg.S.length sc) (.slice ha e.sg.H.length hc) (.slice ra e.sg.R.length rc)) rfl 45 old q5 (by kernel_rfl) q6 HOR.out ?_
    intro w2 hw2 hk2
    have hne1 : ¬ Licit.One (w.heap.size + 1) w.heap.size := fun e => by have : w.heap.size = w.heap.size + 1 := e; omega
    have hne2 : ¬ Licit.One (w.heap.size + 1) (w.heap.size + 1 + 1) := fun e => by have : w.heap.size + 1 + 1 = w.heap.size + 1 := e; omega
    refine hK.out _ _ ⟨⟨(hk2.cell (World.block_lt_of_cell? _ _ q0) hne1).trans q0, (hk2.cell (World.block_lt_of_cell? _ _ q0) hne1).trans q2, (hk2.cell (World.block_lt_of_cell? _ _ q0) hne1).trans q3⟩, (hk2.block _ (kac q4) hne2).trans q4, _, hw2, rfl⟩ (fun hHeld => ?_)
    have HW := hdd hw2
    have HB := hdd (HB1'.out.trans ((kbo hk2).below (B := w.heap.size) HB1'.out.size (fun k hk e => by have : k = _ := e; omega)))
    clear hK K hw2 hk2 q0 q2 q3 q4 q5 q6 hne1 hne2
    try simp only [Act.put, s1, s2, s3]
    (refine tk 19 rfl rfl rfl (by kernel_rfl) (fun _ _ _ h => h) (by intro W hW; (try dsimp only at hW); go_simp <;> with_reducible rfl) (by assumption) ?_; simp only [Act.put, s1, s2, s3])
    refine wpAnyH_done (by kernel_rfl) ?_ _
    simp only [Exit.then]
    go_wp2
    refine kam rfl (w.heap.size + 1) 45 _ (0, 0) _ rfl HW.out rfl rfl (by kernel_rfl) rfl ?_
    exact ⟨rfl, HB.out⟩
   )
end Go.Proofs.YtknpbekoenbphaaGreatDoor
