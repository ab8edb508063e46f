/- Parts of the proofs: FrmMap, PlainRs, WkRv6, FrmMore. No condition beyond those at each theorem. -/
import Derived.Maps.RangeWalk
import Derived.Test.YtknpbekoenbphaaGreatDoorPk12
set_option linter.unusedVariables false
set_option linter.unusedSimpArgs false
set_option maxHeartbeats 16000000
set_option maxRecDepth 100000
namespace Licit
open Go Go.RowKit Go.MapKept Go.ChangeMaps
section
variable {κ : Type} [DecidableEq κ]
def kcb : List (κ × Value) → κ → Option Value
 | [], _ => none
 | (a, v) :: r, s => if a = s then some v else kcb r s
def kju : List (κ × Value) → κ → Value → List (κ × Value)
 | [], s, v => [(s, v)]
 | (a, u) :: r, s, v => if a = s then (a, v) :: r else (a, u) :: kju r s v
def kbg (L : List (κ × Value)) : List κ := L.map (·.1)
theorem kf2 (L : List (κ × Value)) (s t : κ) (v : Value) : kcb (kju L s v) t = if s = t then some v else kcb L t := by
 induction L with
 | nil => simp [kju, kcb]
 | cons x r ih =>
   obtain ⟨a, u⟩ := x
   unfold kju
   by_cases h : a = s
   · rw [if_pos h]
     subst h
     by_cases h2 : a = t <;> simp [kcb, h2]
   · rw [if_neg h]
     by_cases h2 : a = t
     · subst h2
       simp [kcb, Ne.symm h]
     · simp [kcb, h2, ih]
theorem kfg {L : List (κ × Value)} {s : κ} : kcb L s = none ↔ s ∉ kbg L := by
 induction L with
 | nil => simp [kcb, kbg]
 | cons x r ih =>
   obtain ⟨a, u⟩ := x
   by_cases h : a = s
   · subst h; simp [kcb, kbg]
   · simp [kcb, h, ih, kbg, Ne.symm h]
theorem kv0 {L : List (κ × Value)} {s : κ} {v : Value} (h : kcb L s = some v) : (s, v) ∈ L := by
 induction L with
 | nil => simp [kcb] at h
 | cons x r ih =>
   obtain ⟨a, u⟩ := x
   by_cases h2 : a = s
   · subst h2; simp [kcb] at h; simp [h]
   · simp [kcb, h2] at h; exact List.mem_cons_of_mem _ (ih h)
theorem khb {L : List (κ × Value)} (hn : (kbg L).Nodup) {s : κ} {v : Value} (h : (s, v) ∈ L) : kcb L s = some v := by
 induction L with
 | nil => simp at h
 | cons x r ih =>
   obtain ⟨a, u⟩ := x
   simp only [kbg, List.map_cons, List.nodup_cons] at hn
   rcases List.mem_cons.1 h with e | h
   · cases e; simp [kcb]
   · have : a ≠ s := fun e => hn.1 (by rw [e]; exact List.mem_map.2 ⟨(s, v), h, rfl⟩)
     simp [kcb, this]
     exact ih hn.2 h
theorem kjj {L : List (κ × Value)} {s : κ} {v : Value} (h : s ∉ kbg L) : kju L s v = L ++ [(s, v)] := by
 induction L with
 | nil => rfl
 | cons x r ih =>
   obtain ⟨a, u⟩ := x
   simp only [kbg, List.map_cons, List.mem_cons, not_or] at h
   simp [kju, Ne.symm h.1, ih h.2]
theorem ktb (L : List (κ × Value)) (s : κ) (v : Value) : kbg (kju L s v) = if s ∈ kbg L then kbg L else kbg L ++ [s] := by
 induction L with
 | nil => simp [kju, kbg]
 | cons x r ih =>
   obtain ⟨a, u⟩ := x
   by_cases h : a = s
   · subst h; simp [kju, kbg]
   · have ih' : List.map (fun x => x.fst) (kju r s v) = if s ∈ List.map (fun x => x.fst) r then List.map (fun x => x.fst) r else List.map (fun x => x.fst) r ++ [s] := ih
     simp only [kju, if_neg h, kbg, List.map_cons, ih', List.mem_cons, Ne.symm h, false_or]
     split <;> rfl
theorem kc5 {L : List (κ × Value)} {s t : κ} {v : Value} : t ∈ kbg (kju L s v) ↔ t = s ∨ t ∈ kbg L := by
 rw [ktb]
 by_cases h : s ∈ kbg L
 · rw [if_pos h]
   exact ⟨.inr, fun h2 => by rcases h2 with rfl | h2 <;> assumption⟩
 · rw [if_neg h]; simp [or_comm]
theorem kgj {α β : Type} (f : α → β) : ∀ {l : List α}, (l.map f).Nodup → l.Nodup
 | [], _ => by simp
 | a :: r, h => by
   simp only [List.map_cons, List.nodup_cons] at h ⊢
   exact ⟨fun hm => h.1 (List.mem_map.2 ⟨a, hm, rfl⟩), kgj f h.2⟩
end
structure ket {κ : Type} (P : Program) (k : TypeId) (kv : κ → Value) : Prop where
 K : Go.Maps.Keyed P k
 inj : ∀ a b, kv a = kv b → a = b
def kbj {κ : Type} (P : Program) (k : TypeId) (kv : κ → Value) (w : World) (b : Nat) (L : List (κ × Value)) : Prop :=
 ∃ es clock, w.heap[b]? = some (.map es clock) ∧ Stamped es clock ∧ es.toList.map (fun e => (e.key, e.val)) = L.map (fun x => (kv x.1, x.2)) ∧ ∀ x ∈ L, ∃ l, keyOf P k (kv x.1) = some l
section
variable {κ : Type} {P : Program} {k t e : TypeId} {kv : κ → Value} {w w' : World} {b : Nat} {L : List (κ × Value)}
theorem kbj.lt (h : kbj P k kv w b L) : b < w.heap.size := by
 obtain ⟨es, clock, hb, _⟩ := h
 exact (Array.getElem?_eq_some_iff.1 hb).1
theorem kbj.of_block (h : kbj P k kv w b L) (hb : w'.heap[b]? = w.heap[b]?) : kbj P k kv w' b L := by
 obtain ⟨es, clock, h1, r⟩ := h
 exact ⟨es, clock, hb.trans h1, r⟩
theorem kbj.kept {S : Nat → Prop} (h : kbj P k kv w b L) (hk : ka1 S w w') (hs : ¬ S b) : kbj P k kv w' b L := h.of_block (hk.block b h.lt hs)
theorem kbj.below {B : Nat} (h : kbj P k kv w b L) (hk : Below B w w') (hs : b < B) : kbj P k kv w' b L := h.of_block (hk.block b hs)
theorem kbj.made (w : World) : kbj P k kv (w.alloc (.map #[] 0)) w.heap.size [] :=
 ⟨#[], 0, (MapKept.heap_alloc w _).1, stamped_empty 0, rfl, by simp⟩
theorem kbj.nodup (K : ket P k kv) (h : kbj P k kv w b L) : (kbg L).Nodup := by
 obtain ⟨es, clock, hb, hs, hl, _⟩ := h
 have h1 := hs.2.2
 have h2 : es.toList.map (·.key) = L.map (fun x => kv x.1) := by
  have := congrArg (List.map (·.1)) hl
  simpa [List.map_map, Function.comp_def] using this
 rw [h2] at h1
 have h3 : L.map (fun x => kv x.1) = (kbg L).map kv := by simp [kbg, List.map_map, Function.comp_def]
 rw [h3] at h1
 exact kgj _ h1
theorem getL_find [DecidableEq κ] {es : Array MapEntry} (K : ket P k kv) (hs : es.toList.Pairwise (fun x y => x.key ≠ y.key)) (hl : es.toList.map (fun e => (e.key, e.val)) = L.map (fun x => (kv x.1, x.2))) (s : κ) :
 ((∀ e ∈ es.toList, e.key ≠ kv s) → kcb L s = none) ∧ ∀ (j : Nat) (e : MapEntry), es.toList[j]? = some e → e.key = kv s → kcb L s = some e.val ∧ L[j]? = some (s, e.val) := by
 generalize es.toList = es at *
 constructor
 · intro h
   rw [kfg]
   intro hm
   obtain ⟨x, hx, hxs⟩ := List.mem_map.1 hm
   have : (kv x.1, x.2) ∈ es.map (fun e => (e.key, e.val)) := by rw [hl]; exact List.mem_map.2 ⟨x, hx, rfl⟩
   obtain ⟨e, he, hee⟩ := List.mem_map.1 this
   exact h e he (by have := congrArg Prod.fst hee; simp at this; rw [this, hxs])
 · induction es generalizing L with
   | nil => intro j e hj; simp at hj
   | cons x r ih =>
     cases L with
     | nil => simp at hl
     | cons y q =>
       simp only [List.map_cons, List.cons.injEq] at hl
       obtain ⟨hp1, hp2⟩ := List.pairwise_cons.1 hs
       obtain ⟨ya, yv⟩ := y
       obtain ⟨h1, h2⟩ := Prod.mk.inj hl.1
       intro j e hj hk
       cases j with
       | zero =>
         simp only [List.getElem?_cons_zero, Option.some.injEq] at hj
         subst hj
         have : ya = s := K.inj _ _ (h1.symm.trans hk)
         subst this
         simp [kcb, h2]
       | succ j =>
         simp only [List.getElem?_cons_succ] at hj
         obtain ⟨g1, g2⟩ := ih hp2 hl.2 j e hj hk
         have : ya ≠ s := fun e2 => hp1 e (List.mem_of_getElem? hj) (by rw [h1, hk]; exact congrArg kv e2)
         simp [kcb, this, g1, g2]
theorem kbj.readable (h : kbj P k kv w b L) {es : Array MapEntry} {clock : Nat} (hb : w.heap[b]? = some (.map es clock)) : ∀ e ∈ es.toList, ∃ l, keyOf P k e.key = some l := by
 obtain ⟨es', clock', hb', hs, hl, hr⟩ := h
 rw [hb'] at hb
 cases hb
 intro e he
 have : (e.key, e.val) ∈ L.map (fun x => (kv x.1, x.2)) := by rw [← hl]; exact List.mem_map.2 ⟨e, he, rfl⟩
 obtain ⟨x, hx, hxe⟩ := List.mem_map.1 this
 obtain ⟨l, h2⟩ := hr x hx
 exact ⟨l, by have := congrArg Prod.fst hxe; simp at this; rw [← this]; exact h2⟩
theorem kbj.look [DecidableEq κ] (h : kbj P k kv w b L) (K : ket P k kv) (ht : P.underlying t = some (.map k e)) {z : Value} (hz : (zeroValue e).run P w = .ok z w) (s : κ) (hk : ∃ l, keyOf P k (kv s) = some l) (c : Bool) :
 (Instr.lookup t (.map (some b)) (kv s) c).run P w = .ok (if c then .tuple #[(kcb L s).getD z, .bool (kcb L s).isSome] else (kcb L s).getD z) w := by
 have hread := fun es clock hb => h.readable (es := es) (clock := clock) hb
 obtain ⟨es, clock, hb, hs, hl, _⟩ := h
 obtain ⟨kl, hkey⟩ := hk
 have hp := ((stamped_iff es clock).1 hs).2.2
 obtain ⟨g1, g2⟩ := getL_find K hp hl s
 rcases K.K.find w hkey es.toList (hread _ _ hb) with ⟨h1, h2⟩ | ⟨j, e0, h1, h2, h3⟩
 · rw [g1 h2]
   simp [Instr.lookup, run_underlying ht, MapKept.run_getObj_map hb, K.K.check w _ hkey, h1, hz, Result.andThen]
 · rw [(g2 j e0 h2 h3).1]
   simp [Instr.lookup, run_underlying ht, MapKept.run_getObj_map hb, K.K.check w _ hkey, h1, Result.andThen]
theorem kvd [DecidableEq κ] {L : List (κ × Value)} (hn : (kbg L).Nodup) {s : κ} {u v : Value} {j : Nat} (h : L[j]? = some (s, u)) : kju L s v = L.set j (s, v) := by
 induction L generalizing j with
 | nil => simp at h
 | cons x r ih =>
   obtain ⟨a, y⟩ := x
   simp only [kbg, List.map_cons, List.nodup_cons] at hn
   cases j with
   | zero => simp at h; simp [kju, h.1]
   | succ j =>
     simp at h
     have : a ≠ s := fun e => hn.1 (by rw [e]; exact List.mem_map.2 ⟨_, List.mem_of_getElem? h, rfl⟩)
     simp [kju, this, ih hn.2 h]
theorem kbj.store [DecidableEq κ] (h : kbj P k kv w b L) (K : ket P k kv) (ht : P.underlying t = some (.map k e)) (s : κ) (v : Value) (hk : ∃ l, keyOf P k (kv s) = some l) :
 ∃ w', (Instr.mapUpdate t (.map (some b)) (kv s) v).run P w = .ok () w' ∧ kbj P k kv w' b (kju L s v) ∧ ka1 (One b) w w' ∧ w'.heap.size = w.heap.size := by
 have hread := fun es clock hb => h.readable (es := es) (clock := clock) hb
 have hnd := h.nodup K
 obtain ⟨es, clock, hb, hs, hl, hr⟩ := h
 obtain ⟨kl, hkey⟩ := hk
 have hp := ((stamped_iff es clock).1 hs).2.2
 obtain ⟨g1, g2⟩ := getL_find K hp hl s
 have hkept : ∀ o, ka1 (One b) w (setBlock w b o) := fun o => ⟨rfl, rfl, rfl, by simp [setBlock], fun i _ hi => heap_setBlock_other hb _ hi⟩
 have hsz : ∀ o, (setBlock w b o).heap.size = w.heap.size := fun o => by simp [setBlock]
 rcases K.K.find w hkey es.toList (hread _ _ hb) with ⟨h1, h2⟩ | ⟨j, e0, h1, h2, h3⟩
 · have hnm := kfg.1 (g1 h2)
   refine ⟨setBlock w b (.map (es.push ⟨kv s, v, clock⟩) (clock + 1)), ?_, ⟨_, _, heap_setBlock_same hb _, stamped_push hs h2, ?_, ?_⟩, hkept _, hsz _⟩
   · simp [Instr.mapUpdate, run_underlying ht, MapKept.run_getObj_map hb, K.K.check w false hkey, h1, MapKept.run_setObj_map _ hb, Result.andThen, setBlock]
   · rw [kjj hnm, Array.toList_push, List.map_append, List.map_append, hl]
     rfl
   · rw [kjj hnm]
     intro x hx
     rcases List.mem_append.1 hx with hx | hx
     · exact hr x hx
     · simp at hx; subst hx; exact ⟨kl, hkey⟩
 · have hj : es[j]? = some e0 := by simpa using h2
   have hat := (g2 j e0 h2 h3).2
   have hlist : (es.modify j (fun e' => { e' with key := kv s, val := v })).toList = es.toList.set j { e0 with key := kv s, val := v } := by rw [Array.toList_modify, modify_eq_set _ _ _ _ h2]
   refine ⟨setBlock w b (.map (es.modify j (fun e' => { e' with key := kv s, val := v })) clock), ?_, ⟨_, _, heap_setBlock_same hb _, stamped_modify hs _ _ (fun _ _ => rfl) (fun e' _ he' => by rw [hj] at he'; cases he'; exact h3.symm), ?_, ?_⟩, hkept _, hsz _⟩
   · simp [Instr.mapUpdate, run_underlying ht, MapKept.run_getObj_map hb, K.K.check w false hkey, h1, hj, h3, K.K.stays w hkey, MapKept.run_setObj_map _ hb, Result.andThen, setBlock]
   · rw [kvd hnd hat, hlist, List.map_set, List.map_set, hl]
   · rw [kvd hnd hat]
     intro x hx
     rcases List.mem_or_eq_of_mem_set hx with hx | rfl
     · exact hr x hx
     · exact ⟨kl, hkey⟩
theorem kbj.len (h : kbj P k kv w b L) (ht : P.underlying t = some (.map k e)) (ty : TypeId) : (Builtin.len_ #[t] ty #[.map (some b)]).run P w = .ok (.int .i64 (L.length : Int)) w := by
 obtain ⟨es, clock, hb, hs, hl, hr⟩ := h
 have hz : es.size = L.length := by have := congrArg List.length hl; simpa using this
 simp [Builtin.len_, run_underlying ht, MapKept.run_getObj_map hb, Result.andThen, hz, goInt]
def kcq (P : Program) (k : TypeId) (kv : κ → Value) (w : World) (b r : Nat) (L V : List (κ × Value)) : Prop :=
 kbj P k kv w b L ∧ V.Nodup ∧ (∀ x ∈ V, x ∈ L) ∧ ∃ es clock since seen c0, w.heap[b]? = some (.map es clock) ∧ w.heap[r]? = some (.mapIter (some b) since seen c0) ∧ (∀ x ∈ es.toList, x.born < since) ∧ since ≤ c0 ∧ since ≤ clock ∧
  (∀ e ∈ es.toList, seen.contains e.born = true ↔ ∃ x ∈ V, kv x.1 = e.key)
theorem kcq.map {r : Nat} {V : List (κ × Value)} (h : kcq P k kv w b r L V) : kbj P k kv w b L := h.1
theorem kcq.ne {r : Nat} {V : List (κ × Value)} (h : kcq P k kv w b r L V) : r ≠ b := by
 obtain ⟨_, _, _, es, clock, since, seen, c0, h1, h2, _⟩ := h
 intro e; rw [e, h1] at h2; cases h2
theorem kcq.lt {r : Nat} {V : List (κ × Value)} (h : kcq P k kv w b r L V) : r < w.heap.size := by
 obtain ⟨_, _, _, es, clock, since, seen, c0, h1, h2, _⟩ := h
 exact (Array.getElem?_eq_some_iff.1 h2).1
theorem kcq.of_blocks {r : Nat} {V : List (κ × Value)} (h : kcq P k kv w b r L V) (hb : w'.heap[b]? = w.heap[b]?) (hr : w'.heap[r]? = w.heap[r]?) : kcq P k kv w' b r L V := by
 obtain ⟨hm, hv, hs, es, clock, since, seen, c0, h1, h2, r⟩ := h
 exact ⟨hm.of_block hb, hv, hs, es, clock, since, seen, c0, hb.trans h1, hr.trans h2, r⟩
theorem kcq.kept {S : Nat → Prop} {r : Nat} {V : List (κ × Value)} (h : kcq P k kv w b r L V) (hk : ka1 S w w') (hb : ¬ S b) (hr : ¬ S r) : kcq P k kv w' b r L V :=
 h.of_blocks (hk.block b h.1.lt hb) (hk.block r h.lt hr)
theorem kbj.range (h : kbj P k kv w b L) (ht : P.underlying t = some (.map k e)) :
 ∃ o, (Instr.range t (.map (some b))).run P w = .ok (.pointer (some ⟨w.heap.size, 0, none⟩)) (w.alloc o) ∧ kcq P k kv (w.alloc o) b w.heap.size L [] := by
 have hm := h
 obtain ⟨es, clock, hb, hs, hl, hr⟩ := h
 refine ⟨_, run_range_map w t k e b es clock ht hb, hm.of_block ((MapKept.heap_alloc w _).2 b hm.lt), by simp, by simp, es, clock, clock, #[], clock, ((MapKept.heap_alloc w _).2 b hm.lt).trans hb, (MapKept.heap_alloc w _).1, hs.1, Nat.le_refl _, Nat.le_refl _, fun e _ => by simp⟩
theorem kcq.next [DecidableEq κ] {r : Nat} {V : List (κ × Value)} (h : kcq P k kv w b r L V) (K : ket P k kv) (ty : TypeId) :
 (V.Perm L ∧ (Instr.next (.pointer (some ⟨r, 0, none⟩)) false ty).run P w = .ok (.tuple #[.bool false]) w) ∨
 ∃ (s : κ) (v : Value) (w' : World), (s, v) ∈ L ∧ (s, v) ∉ V ∧ (Instr.next (.pointer (some ⟨r, 0, none⟩)) false ty).run P w = .ok (.tuple #[.bool true, kv s, v]) w' ∧
   kcq P k kv w' b r L (V ++ [(s, v)]) ∧ ka1 (One r) w w' ∧ w'.heap.size = w.heap.size ∧ (Instr.entry (.pointer (some ⟨r, 0, none⟩))).run P w' = .ok (.tuple #[kv s, v]) w' ∧ w'.rangeLeft b r < w.rangeLeft b r := by
 have hne := h.ne
 have hnd := h.1.nodup K
 obtain ⟨hm, hvn, hvs, es, clock, since, seen, c0, hb, hr, hold, hsc, hsk, hseen⟩ := h
 obtain ⟨es', clock', hb', hst, hl, hrd⟩ := id hm
 rw [hb] at hb'
 cases hb'
 have hst' := (stamped_iff es clock).1 hst
 have hLn : L.Nodup := kgj (fun x : κ × Value => x.1) hnd
 rcases run_next_at (P := P) w ty r b since c0 seen es clock hr hb hold hsc with ⟨h0, hrun⟩ | ⟨e, he, w1, hal, hrun⟩
 · refine .inl ⟨?_, hrun⟩
   refine (List.perm_ext_iff_of_nodup hvn hLn).2 fun x => ⟨hvs x, fun hx => ?_⟩
   have h1 : (kv x.1, x.2) ∈ es.toList.map (fun e => (e.key, e.val)) := by rw [hl]; exact List.mem_map.2 ⟨x, hx, rfl⟩
   obtain ⟨e, he, hee⟩ := List.mem_map.1 h1
   have h2 := all_seen es seen h0 e he
   obtain ⟨y, hy, hye⟩ := (hseen e he).1 h2
   have h3 : y.1 = x.1 := K.inj _ _ (hye.trans (congrArg Prod.fst hee))
   have h4 := khb hnd (s := y.1) (v := y.2) (hvs y hy)
   have h5 := khb hnd (s := x.1) (v := x.2) hx
   rw [h3, h5] at h4
   have : x = y := Prod.ext h3.symm (Option.some.inj h4)
   rw [this]; exact hy
 · obtain ⟨hem, hes⟩ := mem_left he
   have h1 : (e.key, e.val) ∈ L.map (fun x => (kv x.1, x.2)) := by rw [← hl]; exact List.mem_map.2 ⟨e, hem, rfl⟩
   obtain ⟨x, hx, hxe⟩ := List.mem_map.1 h1
   obtain ⟨s, v⟩ := x
   obtain ⟨ek, ev⟩ := Prod.mk.inj hxe
   dsimp only at ek ev
   have hnv : (s, v) ∉ V := fun hin => by
    have := (hseen e hem).2 ⟨_, hin, ek⟩
    rw [hes] at this; cases this
   have hr1 : w1.heap[r]? = some (.mapIter (some b) since seen c0) := by rcases hal with rfl | rfl <;> exact hr
   have hb1 : w1.heap[b]? = some (.map es clock) := by rcases hal with rfl | rfl <;> exact hb
   have hset := heap_set (o' := .mapIter (some b) since (seen.push e.born) clock) hr1
   have hb' : (setBlock w1 r (.mapIter (some b) since (seen.push e.born) clock)).heap[b]? = some (.map es clock) := (hset.2 b (fun e1 => hne e1.symm)).trans hb1
   have hbw : w1.heap[b]? = w.heap[b]? := hb1.trans hb.symm
   refine .inr ⟨s, v, _, hx, hnv, by rw [ek, ev]; exact hrun, ⟨⟨es, clock, hb', hst, hl, hrd⟩, ?_, ?_, es, clock, since, seen.push e.born, clock, hb', hset.1, hold, hsk, hsk, ?_⟩, ?_, ?_, ?_, ?_⟩
   · exact List.nodup_append.2 ⟨hvn, by simp, fun a ha c hc e1 => by simp at hc; subst hc; subst e1; exact hnv ha⟩
   · intro y hy
     rcases List.mem_append.1 hy with hy | hy
     · exact hvs y hy
     · simp at hy; subst hy; exact hx
   · intro e1 he1
     rw [contains_push, Bool.or_eq_true, hseen e1 he1]
     constructor
     · rintro (⟨y, hy, hy2⟩ | hy)
       · exact ⟨y, List.mem_append_left _ hy, hy2⟩
       · have hbe : e1.born = e.born := by simpa using hy
         have : e1 = e := born_inj hst'.2.1 he1 hem hbe
         exact ⟨(s, v), by simp, by rw [this]; exact ek⟩
     · rintro ⟨y, hy, hy2⟩
       rcases List.mem_append.1 hy with hy | hy
       · exact .inl ⟨y, hy, hy2⟩
       · simp at hy; subst hy
         have : e1 = e := entry_eq_of_key hst'.2.2 he1 hem (hy2.symm.trans ek)
         exact .inr (by simp [this])
   · rcases hal with rfl | rfl <;> exact ⟨rfl, rfl, rfl, by simp [setBlock], fun i _ hi => hset.2 i hi⟩
   · rcases hal with rfl | rfl <;> simp [setBlock]
   · have := run_entry_at (P := P) _ r b since seen es clock e hset.1 hb' hem hst'.2.1
     rw [ek, ev]; exact this
   · have hs1 : (setBlock w1 r (.mapIter (some b) since (seen.push e.born) clock)).heap[r]? = some (.mapIter (some b) since (seen.push e.born) clock) := hset.1
     simp only [World.rangeLeft, hs1, hb', hr, hb]
     exact left_shrinks es seen e he
theorem kgz {w w' : World} {b r : Nat} (hb : w'.heap[b]? = w.heap[b]?) (hr : w'.heap[r]? = w.heap[r]?) : w'.rangeLeft b r = w.rangeLeft b r := by simp only [World.rangeLeft, hb, hr]
end
section
variable {κ : Type} [DecidableEq κ] {P : Program} (w : World) {ops : Array Oper} {rest : List Oper} {o : Oper} {a : Act} {Q : Exit → Act → World → Prop}
theorem kbp (hg : o.guard = none) (m x : Operand) (t : TypeId) (c : Bool) (hop : o.op = Op.lookup t m x c) (k e : TypeId) (kv : κ → Value) (K : ket P k kv) (ht : P.underlying t = some (.map k e)) (z : Value) (hz : ∀ w, (zeroValue e).run P w = .ok z w)
 (b : Nat) (L : List (κ × Value)) (hm : a.eval m = .map (some b)) (h : kbj P k kv w b L) (s : κ) (hx : a.eval x = kv s) (hk : ∃ l, keyOf P k (kv s) = some l)
 (hK : wpList P ops Q rest (a.put o.dst (if c then .tuple #[(kcb L s).getD z, .bool (kcb L s).isSome] else (kcb L s).getD z)) w) : wpList P ops Q (o :: rest) a w := by
 refine wpList_plain hg fun K' hK' => ?_
 unfold Oper.wp
 simp only [execOp, hop, hm, hx, Sem.run_bind, h.look K ht (hz w) s hk c, Result.andThen, Sem.run_pure]
 exact hK' _ _ hK
theorem kbd (hg : o.guard = none) (m x v : Operand) (t : TypeId) (hop : o.op = Op.mapUpdate t m x v) (k e : TypeId) (kv : κ → Value) (K : ket P k kv) (ht : P.underlying t = some (.map k e))
 (b : Nat) (L : List (κ × Value)) (hm : a.eval m = .map (some b)) (h : kbj P k kv w b L) (s : κ) (hx : a.eval x = kv s) (val : Value) (hv : a.eval v = val) (hk : ∃ l, keyOf P k (kv s) = some l)
 (hK : ∀ w', kbj P k kv w' b (kju L s val) → ka1 (One b) w w' → w'.heap.size = w.heap.size → wpList P ops Q rest (a.put o.dst undef) w') : wpList P ops Q (o :: rest) a w := by
 refine wpList_plain hg fun K' hK' => ?_
 obtain ⟨w', hrun, h1, h2, h3⟩ := h.store K ht s val hk
 unfold Oper.wp
 simp [execOp, hop, hm, hx, hv, hrun, Result.andThen]
 exact hK' _ _ (hK w' h1 h2 h3)
omit [DecidableEq κ] in
theorem khk (hg : o.guard = none) (m : Operand) (t : TypeId) (hop : o.op = Op.range t m) (k e : TypeId) (kv : κ → Value) (ht : P.underlying t = some (.map k e)) (b : Nat) (L : List (κ × Value)) (hm : a.eval m = .map (some b)) (h : kbj P k kv w b L)
 (hK : ∀ w', kcq P k kv w' b w.heap.size L [] → Below w.heap.size w w' → w'.heap.size = w.heap.size + 1 → wpList P ops Q rest (a.put o.dst (.pointer (some ⟨w.heap.size, 0, none⟩))) w') : wpList P ops Q (o :: rest) a w := by
 refine wpList_plain hg fun K' hK' => ?_
 obtain ⟨ob, hrun, h1⟩ := h.range ht
 unfold Oper.wp
 simp [execOp, hop, hm, hrun, Result.andThen]
 exact hK' _ _ (hK _ h1 ((Below.refl _ _).alloc (Nat.le_refl _) _) (by simp))
theorem ki2 (hg : o.guard = none) (it : Operand) (hop : o.op = Op.next it false) (k : TypeId) (kv : κ → Value) (K : ket P k kv) (b r : Nat) (L V : List (κ × Value)) (hit : a.eval it = .pointer (some ⟨r, 0, none⟩)) (h : kcq P k kv w b r L V)
 (hDone : V.Perm L → wpList P ops Q rest (a.put o.dst (.tuple #[.bool false])) w)
 (hMore : ∀ (s : κ) (v : Value) (w' : World), (s, v) ∈ L → (s, v) ∉ V → kcq P k kv w' b r L (V ++ [(s, v)]) → ka1 (One r) w w' → w'.heap.size = w.heap.size → (Instr.entry (.pointer (some ⟨r, 0, none⟩))).run P w' = .ok (.tuple #[kv s, v]) w' → w'.rangeLeft b r < w.rangeLeft b r →
   wpList P ops Q rest (a.put o.dst (.tuple #[.bool true, kv s, v])) w') : wpList P ops Q (o :: rest) a w := by
 refine wpList_plain hg fun K' hK' => ?_
 unfold Oper.wp
 rcases h.next K o.type with ⟨h0, hrun⟩ | ⟨s, v, w', h1, h2, hrun, h3, h4, h5, h6, h7⟩
 · simp [execOp, hop, hit, hrun, Result.andThen]
   exact hK' _ _ (hDone h0)
 · simp [execOp, hop, hit, hrun, Result.andThen]
   exact hK' _ _ (hMore s v w' h1 h2 h3 h4 h5 h6 h7)
end
end Licit
namespace Licit.Rv
open Go Licit
def findI (l : List Bs) (s : Bs) : Nat :=
 match l with
 | [] => 0
 | a :: r => if a = s then 0 else findI r s + 1
abbrev Past := List Bool
abbrev Row := Nat × Past
abbrev Stt := List (Option Row)
def orL (a b : Past) : Past := List.zipWith (· || ·) a b
def readyL (S : Stt) : Row → List Nat → Option Row
 | x, [] => some x
 | x, j :: js => match S.getD j none with
   | none => none
   | some y => readyL S (max x.1 (y.1 + 1), orL (x.2.set j true) y.2) js
def stepS (J : List (List Nat)) (S : Stt) (i : Nat) : Stt :=
 match S.getD i none with
 | some _ => S
 | none => match readyL S (0, List.replicate S.length false) (J.getD i []) with
   | none => S
   | some x => S.set i (some x)
def passS (J : List (List Nat)) (S : Stt) (k : Nat) : Stt := (List.range k).foldl (stepS J) S
def cntS (S : Stt) : Nat := (S.filter (·.isSome)).length
def roundsS (J : List (List Nat)) : Nat → Stt → Option Stt
 | 0, _ => none
 | f + 1, S => if S.length ≤ cntS S then some S else if cntS (passS J S S.length) = cntS S then none else roundsS J f (passS J S S.length)
def namesJ (l : List Ev) (ids : List Bs) : List (List Nat) := l.map fun e => e.names.map (findI ids)
def arrS (l : List Ev) (ids : List Bs) : Option Stt := roundsS (namesJ l ids) (l.length + 1) (List.replicate l.length none)
def firstF (p : Nat → Bool) : Nat → Option Nat
 | 0 => none
 | n + 1 => match firstF p n with
   | some i => some i
   | none => if p n = true then some n else none
def preE (l : List Ev) (ids : List Bs) : Int × Int :=
 if 1024 < l.length then (-1, 10) else
 match firstF (fun i => !validB (l.getD i ev0)) l.length with
 | some i => ((i : Int), 1)
 | none => match firstF (fun i => decide (findI ids (ids.getD i []) < i)) l.length with
   | some i => ((i : Int), 6)
   | none => match firstF (fun i => (l.getD i ev0).names.any fun s => decide (ids.length ≤ findI ids s)) l.length with
     | some i => ((i : Int), 7)
     | none => (-1, 0)
def setE (l : List Ev) (ids : List Bs) : Int × Int := if (preE l ids).2 = 0 then (if (arrS l ids).isSome then (-1, 0) else (-1, 12)) else preE l ids
def rankI (S : Stt) (i : Nat) : Nat := ((S.getD i none).map (·.1)).getD 0
def pastI (S : Stt) (i k : Nat) : Bool := (((S.getD i none).map (·.2)).getD []).getD k false
def kzn (S : Stt) (ids : List Bs) (i k : Nat) : Bool := if rankI S i = rankI S k then ltB (ids.getD i []) (ids.getD k []) else decide (rankI S i < rankI S k)
def k18 (b : Nat → Nat → Bool) (x : Nat) : List Nat → List Nat
 | [] => [x]
 | y :: r => if b x y = true then x :: y :: r else y :: k18 b x r
def ordI (S : Stt) (ids : List Bs) : List Nat := (List.range S.length).foldl (fun o i => k18 (kzn S ids) i o) []
structure Cx where
 l : List Ev
 ids : List Bs
 S : Stt
def Cx.ev (c : Cx) (i : Nat) : Ev := c.l.getD i ev0
def Cx.id (c : Cx) (i : Nat) : Bs := c.ids.getD i []
def Cx.turn (c : Cx) (A : List Nat) (a : Bs) (n : Int) : Option Nat := A.find? fun k => decide ((c.ev k).author = a) && decide ((c.ev k).number = n)
def Cx.named (c : Cx) (A : List Nat) (s : Bs) : Option Nat := A.find? fun k => decide (c.id k = s)
def Cx.past (c : Cx) (i k : Nat) : Bool := pastI c.S i k
def Cx.entry (c : Cx) (A : List Nat) (i : Nat) : Int :=
 if (c.ev i).kind = 1 then (if (c.turn A (c.ev i).author 0).isSome then 6 else 0)
 else match c.turn A (c.ev i).author 0 with
  | none => 7
  | some j => if c.past i j = false then 7 else if (2 : Int) ^ (c.ev j).height.toNat ≤ (c.ev i).number then 15 else
    match c.turn A (c.ev i).author ((c.ev i).number - 1) with
    | none => 5
    | some b => if c.past i b = false then 5 else if (c.turn A (c.ev i).author (c.ev i).number).isSome then 6 else 0
def Cx.dec (c : Cx) (A : List Nat) (i : Nat) (s : Bs) : Option Nat :=
 match c.named A s with
 | none => none
 | some k => if c.past i k = true ∧ (c.ev k).kind = 3 then some k else none
def Cx.targets (c : Cx) (A : List Nat) (i : Nat) : Int :=
 if (c.ev i).kind = 4 then match c.dec A i ((c.ev i).targets.getD 0 []) with
  | none => 7
  | some k => if (c.ev k).author = (c.ev i).author then 0 else 20
 else if (c.ev i).kind = 5 then match c.dec A i ((c.ev i).targets.getD 0 []), c.dec A i ((c.ev i).targets.getD 1 []) with
  | some a, some b => if (c.ev a).question = (c.ev b).question ∧ (c.ev a).scope = (c.ev b).scope then (if (c.ev a).answer = (c.ev b).answer then 14 else 0) else 9
  | _, _ => 7
 else 0
def Cx.apply (c : Cx) (A : List Nat) (i : Nat) : Int := if c.entry A i = 0 then c.targets A i else c.entry A i
def Cx.replay (c : Cx) : List Nat → List Nat → Option (Nat × Int)
 | _, [] => none
 | A, i :: r => if c.apply A i = 0 then c.replay (A ++ [i]) r else some (i, c.apply A i)
structure Dc where
 id : Bs
 author : Bs
 question : Bs
 scope : Bs
 answer : Bs
 digest : Bs
 till : Int
 wd : Bool
 ov : Bool
 rp : Bool
def Cx.wd (c : Cx) (A : List Nat) (s : Bs) : Bool := A.any fun k => decide ((c.ev k).kind = 4) && decide ((c.ev k).targets.getD 0 [] = s)
def Cx.ov (c : Cx) (A : List Nat) (s : Bs) : Bool := A.any fun k => decide ((c.ev k).kind = 5) && decide ((c.ev k).targets.getD 1 [] = s)
def asked (a b : Ev) : Bool := decide (a.question = b.question) && decide (a.scope = b.scope)
def Cx.rp (c : Cx) (A : List Nat) (s : Bs) : Bool := A.any fun k => decide ((c.ev k).kind = 3) && A.any fun d => decide (c.id d = s) && decide ((c.ev d).kind = 3) && c.past k d && asked (c.ev d) (c.ev k)
def Cx.decOf (c : Cx) (A : List Nat) (i : Nat) : Dc :=
 ⟨c.id i, (c.ev i).author, (c.ev i).question, (c.ev i).scope, (c.ev i).answer, (c.ev i).digest, (c.ev i).till, c.wd A (c.id i), c.ov A (c.id i), c.rp A (c.id i)⟩
def Cx.decs (c : Cx) (A : List Nat) : List Dc := (A.filter fun k => decide ((c.ev k).kind = 3)).map (c.decOf A)
def Dc.over (d : Dc) : Bool := d.wd || d.ov || d.rp
def minB (a b : Bs) : Bs := if ltB b a then b else a
def maxB (a b : Bs) : Bs := if ltB a b then b else a
def disp (a b : Dc) : Bool := !(a.over || b.over || !decide (a.question = b.question) || !decide (a.scope = b.scope) || decide (a.answer = b.answer))
def dispsOf : List Dc → List (Bs × Bs)
 | [] => []
 | a :: r => ((r.filter (disp a)).map fun b => (minB a.id b.id, maxB a.id b.id)) ++ dispsOf r
def ltP (x y : Bs × Bs) : Bool := if x.1 = y.1 then ltB x.2 y.2 else ltB x.1 y.1
def k2d (x : Bs × Bs) : List (Bs × Bs) → List (Bs × Bs)
 | [] => [x]
 | y :: r => if ltP x y = true then x :: y :: r else y :: k2d x r
def sortP (l : List (Bs × Bs)) : List (Bs × Bs) := l.foldl (fun o x => k2d x o) []
def kvq (x : Bs) : List Bs → List Bs
 | [] => [x]
 | y :: r => if x = y then y :: r else if ltB x y = true then x :: y :: r else y :: kvq x r
def sortB (l : List Bs) : List Bs := l.foldl (fun o x => kvq x o) []
structure Rw where
 name : Bs
 root : Bs
 bits : Int
 height : Int
 next : Int
def Cx.person (c : Cx) (A : List Nat) (a : Bs) : Rw :=
 match A.find? fun k => decide ((c.ev k).kind = 1) && decide ((c.ev k).author = a) with
 | some j => ⟨(c.ev j).author, (c.ev j).root, (c.ev j).bits, (c.ev j).height, ((A.filter fun k => decide ((c.ev k).author = a)).length : Int)⟩
 | none => ⟨[], [], 0, 0, ((A.filter fun k => decide ((c.ev k).author = a)).length : Int)⟩
def Cx.people (c : Cx) (A : List Nat) : List Rw := (sortB (A.map fun k => (c.ev k).author)).map (c.person A)
structure Pk where
 name : Bs
 digest : Bs
 ups : Int
def Cx.upsOf (c : Cx) (A : List Nat) (p : Bs) : List Nat := A.filter fun k => decide ((c.ev k).kind = 2) && decide ((c.ev k).pkg = p)
def Cx.pack (c : Cx) (A : List Nat) (p : Bs) : Pk := ⟨p, (((c.upsOf A p).getLast?.map c.ev).getD ev0).digest, ((c.upsOf A p).length : Int)⟩
def Cx.packs (c : Cx) (A : List Nat) : List Pk := (sortB ((A.filter fun k => decide ((c.ev k).kind = 2)).map fun k => (c.ev k).pkg)).map (c.pack A)
structure St where
 people : List Rw
 packs : List Pk
 decs : List Dc
 disps : List (Bs × Bs)
def st0 : St := ⟨[], [], [], []⟩
def Cx.state (c : Cx) (A : List Nat) : St := ⟨c.people A, c.packs A, c.decs A, sortP (dispsOf (c.decs A))⟩
def idsOf (l : List Ev) : List Bs := l.map idE
def foldI (l : List Ev) (ids : List Bs) : St × Int × Int :=
 if (setE l ids).2 = 0 then
  match arrS l ids with
  | none => (st0, -1, 12)
  | some S => match (Cx.mk l ids S).replay [] (ordI S ids) with
    | some (i, f) => (st0, (i : Int), f)
    | none => ((Cx.mk l ids S).state (ordI S ids), -1, 0)
 else (st0, (setE l ids).1, (setE l ids).2)
def foldE (l : List Ev) : St × Int × Int := foldI l (idsOf l)
end Licit.Rv
namespace Go.Proofs.YtknpbekoenbphaaGreatDoor
open Go Go.RowKit Licit
theorem keg {p : Nat → Bool} {n : Nat} : Rv.firstF p n = none ↔ ∀ i, i < n → p i = false := by
 induction n with
 | zero => simp [Rv.firstF]
 | succ n ih =>
   unfold Rv.firstF
   cases h : Rv.firstF p n with
   | some i =>
     simp only [reduceCtorEq, false_iff]
     intro hh
     have := ih.2 (fun j hj => hh j (by omega))
     rw [h] at this
     cases this
   | none =>
     have h1 := ih.1 h
     by_cases hp : p n = true
     · simp only [hp, if_true, reduceCtorEq, false_iff]
       intro hh
       have := hh n (by omega)
       rw [hp] at this
       cases this
     · simp only [Bool.not_eq_true] at hp
       simp only [hp, Bool.false_eq_true, if_false, true_iff]
       intro i hi
       rcases Nat.lt_succ_iff_lt_or_eq.1 hi with h2 | rfl
       · exact h1 i h2
       · exact hp
theorem kha {p : Nat → Bool} {n k : Nat} (hk : k < n) (h0 : ∀ i, i < k → p i = false) (h1 : p k = true) : Rv.firstF p n = some k := by
 induction n with
 | zero => omega
 | succ n ih =>
   unfold Rv.firstF
   by_cases hkn : k < n
   · rw [ih hkn]
   · obtain rfl : k = n := by omega
     rw [keg.2 h0]
     simp [h1]
theorem kq2 {l : List Bs} {s : Bs} : Rv.findI l s < l.length ↔ s ∈ l := by
 induction l with
 | nil => simp [Rv.findI]
 | cons a r ih =>
   unfold Rv.findI
   by_cases h : a = s
   · simp [h]
   · simp [h, ih, Ne.symm h]
theorem ksc {l : List Bs} {s : Bs} {k : Nat} (hk : k ≤ l.length) : Rv.findI l s < k ↔ s ∈ l.take k := by
 induction l generalizing k with
 | nil =>
   have : k = 0 := by simpa using hk
   subst this
   simp [Rv.findI]
 | cons a r ih =>
   cases k with
   | zero => simp
   | succ k =>
     unfold Rv.findI
     by_cases h : a = s
     · simp [h]
     · simp only [h, if_false, List.take_succ_cons, List.mem_cons, Ne.symm h, false_or]
       rw [← ih (by simpa using hk)]
       omega
theorem kwf {α : Type} (p : α → Bool) (xs : List α) (k : Nat) (hk : k < xs.length) (h : (xs.take k).any p = false) : (xs.take (k + 1)).any p = p xs[k] := by
 rw [List.take_add_one, List.any_append, h, List.getElem?_eq_getElem hk]
 simp
theorem k1t (g : Nat) (c : Value) (p : Bs → Bool) (eg : ∀ args w, (callFunc g args).run Tryz.prog w = .ok (.enter g args) w) (v : Value) (xs : List Bs) (w : World) (h : IsSl v (xs.map vS) w)
 (hg : ∀ x ∈ xs, Calls Tryz.prog g #[.string (B x), c] w fun e w' => e = .returned (.bool (p x)) ∧ w = w') :
 Calls Tryz.prog 190 #[v, .func (.func g) #[] #[c]] w fun e w' => (∃ r : Int, e = .returned (.int .i64 r) ∧ decide (0 ≤ r) = xs.any p) ∧ w = w' := by
 obtain ⟨a, cap, rfl⟩ := h.formMap
 have hmx := h.1
 rw [List.length_map] at hmx
 unfold maxLen at hmx
 have H := hdd h
 have HG := hdd hg
 clear h hg
 go_enter Tryz.func190, Tryz.ntmps190
 go_wp2
 go_loopw [5, 8] (fun _ n wr => wr = w ∧ ∃ k : Nat, k ≤ xs.length ∧ n = .int .i64 k ∧ (xs.take k).any p = false) (fun _ n _ => xs.length - (intOf n).toNat)
 case atStart => exact ⟨rfl, 0, by omega, rfl, by simp⟩
 case round =>
  obtain ⟨rfl, k, hk, rfl, hA⟩ := hrel
  have HA := hdd hA
  clear hA
  by_cases hlt : k < xs.length
  · have h2 := H.out
    obtain ⟨b, off, cap', hv, hb, hc⟩ := h2.text rfl hlt
    simp only [Value.slice.injEq, true_and] at hv
    obtain ⟨rfl, rfl⟩ := hv
    have hx : xs.getD k [] = xs[k] := by rw [List.getD_eq_getElem?_getD, List.getElem?_eq_getElem hlt]; rfl
    have hcall := HG.out xs[k] (List.getElem_mem _)
    have HT := hdd (kwf p xs k hlt HA.out)
    have HM := hdd (List.getElem_mem hlt)
    rw [hx] at hc
    generalize xs[k] = x at *
    clear hx h2
    cases hp : p x
    · rw [hp] at hcall
      have HP := hdd hp
      have HCall := hdd hcall
      clear hp hcall
      go_wp2_with (go_at_fn g; refine HCall.out.mono ?_; rintro e w' ⟨rfl, rfl⟩)
      go_roundw
      case rel => exact ⟨trivial, k + 1, by omega, by go_num, by rw [HT.out]; exact HP.out⟩
      case measure => simp [intOf]; omega
    · rw [hp] at hcall
      have HP := hdd hp
      have HCall := hdd hcall
      clear hp hcall
      go_wp2_with (go_at_fn g; refine HCall.out.mono ?_; rintro e w' ⟨rfl, rfl⟩)
      go_ret
      exact ⟨⟨_, rfl, by rw [decide_eq_true (by omega)]; exact (List.any_eq_true.2 ⟨x, HM.out, HP.out⟩).symm⟩, rfl⟩
  · obtain rfl : k = xs.length := by omega
    have hA := HA.out
    rw [List.take_length] at hA
    have HA := hdd hA
    clear hA
    go_wp2
    go_ret
    exact ⟨⟨_, rfl, by rw [HA.out]; rfl⟩, rfl⟩
theorem kna (g : Nat) (c : Value) (p : Bs → Bool) (eg : ∀ args w, (callFunc g args).run Tryz.prog w = .ok (.enter g args) w) (v : Value) (xs : List Bs) (w : World) (h : IsSl v (xs.map vS) w)
 (hg : ∀ x ∈ xs, Calls Tryz.prog g #[.string (B x), c] w fun e w' => e = .returned (.bool (p x)) ∧ w = w') :
 Calls Tryz.prog 130 #[v, .func (.func g) #[] #[c]] w fun e w' => e = .returned (.bool (xs.any p)) ∧ w = w' := by
 have HI := hdd (k1t g c p eg v xs w h hg)
 clear h hg
 go_enter Tryz.func130, Tryz.ntmps130
 go_wp2_with (go_at_call 190; refine HI.out.mono ?_; rintro e w' ⟨⟨r, rfl, hr⟩, rfl⟩)
 go_ret
 exact ⟨kb3 (by rw [← hr]), rfl⟩
abbrev kS (s : Bs) : Value := .string (B s)
theorem kde : ket Tryz.prog 9 kS := ⟨Go.Maps.string_keyed Tryz.underlying9, fun _ _ h => k11 (by cases h; rfl)⟩
theorem kbv {s : Bs} (h : s.length ≤ maxLen) : ∃ l, keyOf Tryz.prog 9 (kS s) = some l := ⟨_, Go.WideMaps.keyOf_string_mk Tryz.underlying9 h⟩
theorem kfz (w : World) : (zeroValue 4).run Tryz.prog w = .ok (.bool false) w := by kernel_rfl
def kfw (w : World) (b : Nat) (L : List Bs) : Prop := kbj Tryz.prog 9 kS w b (L.map fun s => (s, .bool true))
theorem kxg (L : List Bs) : kbg (L.map fun s => (s, Value.bool true)) = L := by simp [kbg, List.map_map, Function.comp_def]
theorem kew (L : List Bs) (s : Bs) : (kcb (L.map fun s => (s, Value.bool true)) s).getD (.bool false) = .bool (decide (s ∈ L)) := by
 cases h : kcb (L.map fun s => (s, Value.bool true)) s with
 | none => have := kfg.1 h; rw [kxg] at this; simp [this]
 | some v =>
   obtain ⟨t, ht, he⟩ := List.mem_map.1 (kv0 h)
   obtain ⟨rfl, rfl⟩ := Prod.mk.inj he
   simp [ht]
theorem kmh (L : List Bs) (s : Bs) : kju (L.map fun s => (s, Value.bool true)) s (.bool true) = (if s ∈ L then L else L ++ [s]).map fun s => (s, Value.bool true) := by
 induction L with
 | nil => rfl
 | cons a r ih =>
   simp only [List.map_cons, kju]
   by_cases h : a = s
   · subst h; simp
   · rw [if_neg h, ih]
     by_cases h2 : s ∈ r
     · simp [h2]
     · simp [h2, Ne.symm h]
theorem ken {ops : Array Oper} {rest : List Oper} {o : Oper} {a : Act} {Q : Exit → Act → World → Prop} (w : World) (hg : o.guard = none) (m x : Operand) (hop : o.op = Op.lookup 92 m x false)
 (b : Nat) (L : List Bs) (hm : a.eval m = .map (some b)) (h : kfw w b L) (s : Bs) (hx : a.eval x = .string (B s)) (hk : s.length ≤ maxLen)
 (hK : wpList Tryz.prog ops Q rest (a.put o.dst (.bool (decide (s ∈ L)))) w) : wpList Tryz.prog ops Q (o :: rest) a w := by
 refine kbp w hg m x 92 false hop 9 4 kS kde Tryz.underlying92 (.bool false) kfz b _ hm h s hx (kbv hk) ?_
 simp only [Bool.false_eq_true, if_false, kew]
 exact hK
theorem kue (x : Bs) (p bm : Nat) (L : List Bs) (w : World) (hx : x.length ≤ maxLen) (hp : w.cell? ⟨p, 0, none⟩ = some (.map (some bm))) (h : kfw w bm L) :
 Calls Tryz.prog 189 #[.string (B x), .pointer (some ⟨p, 0, none⟩)] w fun e w' => e = .returned (.bool (!decide (x ∈ L))) ∧ w = w' := by
 have H := hdd h
 clear h
 go_enter Tryz.func189, Tryz.ntmps189
 go_wp2_with (at_lookup; refine ken _ rfl _ _ rfl bm L rfl H.out x rfl hx ?_)
 go_ret
 exact ⟨rfl, rfl⟩
end Go.Proofs.YtknpbekoenbphaaGreatDoor
namespace Licit
open Go Go.RowKit
theorem kid {w : World} {base : Nat} {t : TypeId} {g n cap : Nat} {xs : List Value} (h : w.ownsRow base t 1 (.slice (some ⟨g, 0, none⟩) n cap) n xs) {i : Nat} (hi : i < xs.length) : w.cell? ⟨g, i, none⟩ = xs[i]? := by
 rcases h.2 with ⟨h0, _⟩ | ⟨g', cap', cur, h1, h2, h3, h4, h5, h6, h7⟩
 · cases h0
 · simp only [Value.slice.injEq, Option.some.injEq, Addr.mk.injEq] at h1
   obtain ⟨⟨rfl, _⟩, _, rfl⟩ := h1
   rw [kab h3]
   have hl := h.1
   have e : (cur.toList.take (n * 1))[i]? = xs[i]? := by rw [h7]
   rw [← e, List.getElem?_take_of_lt (by omega), Array.getElem?_toList]
theorem kg3 (xs : List Bs) {i : Nat} (hi : i < xs.length) : (xs.map vS)[i]? = some (.string (B (xs.getD i []))) := by
 rw [List.getElem?_map, List.getElem?_eq_getElem hi, List.getD_eq_getElem?_getD, List.getElem?_eq_getElem hi]
 rfl
end Licit
