/- Parts of the proofs: FrmAll, PlainAll, Shelf, WkLam1, WkLam2, WkSlices. No condition beyond those at each theorem. -/
import Derived.Test.YtknpbekoenbphaaGreatDoorPk29
import Derived.Test.YtknpbekoenbphaaGreatDoorPk33
import Derived.Test.YtknpbekoenbphaaGreatDoorPk34
set_option linter.unusedVariables false
set_option linter.unusedSimpArgs false
set_option maxHeartbeats 16000000
set_option maxRecDepth 100000
namespace Licit
open Go Go.RowKit
section
variable {P : Program}
theorem kck {ops : Array Oper} {o : Oper} {a : Act} {w : World} {K : Act → World → Prop} {Q : Exit → Act → World → Prop} {E : Prop} (hgd : o.guard = none) (s x : Operand) (t : TypeId)
 (ho : o.op = .call { callee := .builtin .append, args := #[s, x], argTypes := #[t, t] })
 (base : Nat) (e : TypeId) (i : TypeInfo) (z : Value) (size bytes : Nat) (ht : P.underlying t = some (.slice e)) (hi : P.info? e = some i) (hz : i.zero = some z)
 (hsize : i.size = size) (hby : i.bytes = bytes) (hzs : z.cells.size = size) (hsz : 0 < size)
 (v : Value) (n : Nat) (xs : List Value) (hs : a.eval s = v) (hown : w.ownsRow base e size v n xs)
 (ad : Addr) (m c : Nat) (news : List Value) (hx : a.eval x = .slice (some ad) m c) (hl : news.length = m * size) (hnews : ∀ j u, news[j]? = some u → w.cell? (ad.add j) = some u) (h1 : ∀ u ∈ news, u.oneCell' = true)
 (h63 : n + m ≤ maxLen) (hbytes : (n + m) * bytes ≤ 140737488355328) (hbase : base ≤ w.heap.size)
 (h : ∀ v' w', w'.ownsRow base e size v' (n + m) (xs ++ news) → w.grownBy w' v.ownBlock → (v' = .slice none 0 0 ↔ v = .slice none 0 0 ∧ m = 0) → K (a.put o.dst v') w') :
 if Region.wanted o (yielded ops a.tmps) = true then Oper.wp P o a w K Q else E := by
 rw [if_pos (by simp [Region.wanted, hgd])]
 exact wp_append_own w s x t ho base e i z size bytes ht hi hz hsize hby hzs hsz v n xs hs hown ad m c news hx hl hnews h1 h63 hbytes hbase h
end
section
variable {P : Program}
theorem kya {ops : Array Oper} (h : (ops.toList.all fun o => match o.op with | .defer _ => false | _ => true) = true) : ∀ (i : Nat) (o : Oper), ops[i]? = some o → ∀ c, o.op ≠ .defer c := by
 intro i o ho c hc
 obtain ⟨hi, he⟩ := Array.getElem?_eq_some_iff.1 ho
 have := List.all_eq_true.1 h o (by rw [← he]; simp)
 rw [hc] at this
 cases this
theorem kes {w w' : World} (h : Below w.heap.size w w') : KeepsOthers w w' := ⟨h.size, fun k _ hk _ => (h.block k (Array.getElem?_eq_some_iff.1 hk).1).trans hk⟩
theorem kou {b : Nat} {cs : Array Value} {T : TypeId} {fr : Nat × Nat} {w w' : World} (h : ka1 (One b) w w') (hb : w.heap[b]? = some (.cells cs T fr)) : KeepsOthers w w' :=
 ⟨h.size, fun k o hk ho => (h.block k (Array.getElem?_eq_some_iff.1 hk).1 (by rintro rfl; rw [hb] at hk; cases hk; cases ho)).trans hk⟩
theorem kgt {w w' : World} {base : Nat} {t : TypeId} {size : Nat} {v : Value} {n : Nat} {xs : List Value} (ho : w.ownsRow base t size v n xs) (hg : w.grownBy w' v.ownBlock) : KeepsOthers w w' := by
 refine .of_grownBy hg fun j o hj hk => ?_
 rcases id ho.2 with ⟨rfl, _⟩ | ⟨g, cap, cur, rfl, _, hh, _⟩
 · cases hj
 · cases (hj : some g = some j)
   rw [hh] at hk
   cases hk
   rfl
end
section
variable {P : Program} (w : World)
theorem kn1 (base : Nat) (t ty e : TypeId) (i : TypeInfo) (z : Value) (size bytes : Nat) (ht : P.underlying t = some (.slice e)) (hi : P.info? e = some i) (hz : i.zero = some z)
 (hsize : i.size = size) (hby : i.bytes = bytes) (hzs : z.cells.size = size) (hsz : 0 < size)
 (v : Value) (n : Nat) (xs : List Value) (hown : w.ownsRow base e size v n xs)
 (a : Addr) (m c : Nat) (news : List Value) (hl : news.length = m * size) (hnews : ∀ j u, news[j]? = some u → w.cell? (a.add j) = some u) (h1 : ∀ u ∈ news, u.oneCell' = true)
 (h63 : n + m ≤ maxLen) (hbytes : (n + m) * bytes ≤ 140737488355328) (hbase : base ≤ w.heap.size) (_ : 0 < m) :
 ∃ v' w', (Builtin.append_ #[t, t] ty #[v, .slice (some a) m c]).run P w = .ok v' w' ∧ w'.ownsRow base e size v' (n + m) (xs ++ news) ∧ w.grownBy w' v.ownBlock ∧
   (∀ q, v'.ownBlock = some q → v.ownBlock = some q ∨ w.heap.size ≤ q) := by
 obtain ⟨v', w', hr, h2, h3, _⟩ := run_append_own (P := P) w base t ty e i z size bytes ht hi hz hsize hby hzs hsz v n xs hown a m c news hl hnews h1 h63 hbytes hbase
 refine ⟨v', w', hr, h2, h3, fun q hq => ?_⟩
 rcases hown.2 with ⟨rfl, rfl⟩ | ⟨g, cap, cur, rfl, hbg, hg, hnc, hcm, hcs, htake⟩
 · right
   have hx : xs = [] := List.eq_nil_of_length_eq_zero (by simpa using hown.1)
   subst hx
   obtain ⟨v2, w2, hr2, k2, _, _⟩ := run_append_own (P := P) w w.heap.size t ty e i z size bytes ht hi hz hsize hby hzs hsz (.slice none 0 0) 0 [] (World.ownsRow_nil _ _ _ _) a m c news hl hnews h1 h63 hbytes (Nat.le_refl _)
   rw [hr] at hr2
   cases hr2
   exact (k2.lt q hq).1
 · by_cases hroom : n + m ≤ cap
   · left
     subst hsize
     have hfit : n * i.size + news.length ≤ cur.size := by rw [hl, hcs, ← Nat.add_mul]; exact Nat.mul_le_mul_right _ hroom
     have hr2 := run_append_room (P := P) w t ty e i ht hi g n cap cur hg a m c news hl hnews h1 hroom hfit
     rw [hr] at hr2
     cases hr2
     exact hq
   · right
     subst hsize
     subst hby
     have holds : ∀ j u, xs[j]? = some u → w.cell? ((⟨g, 0, none⟩ : Addr).add j) = some u := hown.cells (g := g) rfl
     have hr2 := run_append_grow (P := P) w t ty e i z ht hi hz ⟨g, 0, none⟩ n cap xs hown.1 holds a m c news hl hnews (by omega) (by simp only [maxLen] at h63; omega) (growslice_fits (by omega) hbytes)
     rw [hr] at hr2
     cases hr2
     cases hq
     exact Nat.le_refl _
variable {w}
theorem kmk {o : Oper} {a : Act} {K : Act → World → Prop} {Q : Exit → Act → World → Prop} (s x : Operand) (t : TypeId)
 (ho : o.op = .call { callee := .builtin .append, args := #[s, x], argTypes := #[t, t] })
 (base : Nat) (e : TypeId) (i : TypeInfo) (z : Value) (size bytes : Nat) (ht : P.underlying t = some (.slice e)) (hi : P.info? e = some i) (hz : i.zero = some z)
 (hsize : i.size = size) (hby : i.bytes = bytes) (hzs : z.cells.size = size) (hsz : 0 < size)
 (v : Value) (n : Nat) (xs : List Value) (hs : a.eval s = v) (hown : w.ownsRow base e size v n xs)
 (ad : Addr) (m c : Nat) (news : List Value) (hx : a.eval x = .slice (some ad) m c) (hl : news.length = m * size) (hnews : ∀ j u, news[j]? = some u → w.cell? (ad.add j) = some u) (h1 : ∀ u ∈ news, u.oneCell' = true)
 (h63 : n + m ≤ maxLen) (hbytes : (n + m) * bytes ≤ 140737488355328) (hbase : base ≤ w.heap.size) (hm : 0 < m)
 (h : ∀ v' w', w'.ownsRow base e size v' (n + m) (xs ++ news) → w.grownBy w' v.ownBlock → (∀ q, v'.ownBlock = some q → v.ownBlock = some q ∨ w.heap.size ≤ q) → K (a.put o.dst v') w') : o.wp P a w K Q := by
 obtain ⟨v', w', hr, h2, h3, h4⟩ := kn1 (P := P) w base t o.type e i z size bytes ht hi hz hsize hby hzs hsz v n xs hown ad m c news hl hnews h1 h63 hbytes hbase hm
 unfold Oper.wp execOp
 simp only [ho, resolve, invoke, builtin, Sem.run_bind, Sem.run_pure, Result.andThen_ok, List.map_toArray, List.map_cons, List.map_nil, hs, hx, hr]
 exact h v' w' h2 h3 h4
theorem kb4 {ops : Array Oper} {o : Oper} {a : Act} {K : Act → World → Prop} {Q : Exit → Act → World → Prop} {E : Prop} (hgd : o.guard = none) (s x : Operand) (t : TypeId)
 (ho : o.op = .call { callee := .builtin .append, args := #[s, x], argTypes := #[t, t] })
 (base : Nat) (e : TypeId) (i : TypeInfo) (z : Value) (size bytes : Nat) (ht : P.underlying t = some (.slice e)) (hi : P.info? e = some i) (hz : i.zero = some z)
 (hsize : i.size = size) (hby : i.bytes = bytes) (hzs : z.cells.size = size) (hsz : 0 < size)
 (v : Value) (n : Nat) (xs : List Value) (hs : a.eval s = v) (hown : w.ownsRow base e size v n xs)
 (ad : Addr) (m c : Nat) (news : List Value) (hx : a.eval x = .slice (some ad) m c) (hl : news.length = m * size) (hnews : ∀ j u, news[j]? = some u → w.cell? (ad.add j) = some u) (h1 : ∀ u ∈ news, u.oneCell' = true)
 (h63 : n + m ≤ maxLen) (hbytes : (n + m) * bytes ≤ 140737488355328) (hbase : base ≤ w.heap.size) (hm : 0 < m)
 (h : ∀ v' w', w'.ownsRow base e size v' (n + m) (xs ++ news) → w.grownBy w' v.ownBlock → (∀ q, v'.ownBlock = some q → v.ownBlock = some q ∨ w.heap.size ≤ q) → K (a.put o.dst v') w') : if Region.wanted o (yielded ops a.tmps) = true then Oper.wp P o a w K Q else E := by
 rw [if_pos (by simp [Region.wanted, hgd])]
 exact kmk s x t ho base e i z size bytes ht hi hz hsize hby hzs hsz v n xs hs hown ad m c news hx hl hnews h1 h63 hbytes hbase hm h
end
section
variable {P : Program} {ops : Array Oper} {Q : Exit → Act → World → Prop} {md : Region.Mode} {n : Nat}
theorem kr0 (l : Nat) {o : Oper} {a : Act} {w : World} {K : Act → World → Prop} (hd : ∀ c, o.op ≠ .defer c) (h : o.wp P a w K Q) : o.wpIn (Fence.wide.inRound l) n P a w K Q := by
 refine ⟨fun _ _ => trivial, ?_⟩
 have e : o.semAt (Fence.wide.inRound l).round a.eval = execOp a.eval o := Oper.semAt_plain _ _ _ hd
 rw [e]
 unfold Oper.wp at h
 generalize hq : (execOp a.eval o).run P w = r at *
 cases r with
 | ok x w' =>
   cases x with
   | value v => exact h
   | skip => exact h
   | defer d => exact h
   | enter f args => exact ⟨fun hh => by simp [Fence.wide] at hh, CallsIn.inRound l (callsIn_wide.2 h)⟩
   | row row args => exact ⟨fun hh => by simp [Fence.wide] at hh, fun c cs _ => let ⟨v, w', r, s⟩ := h c cs; ⟨v, w', r, stepsIn_wide.2 s⟩⟩
   | _ => exact (h : False).elim
 | halt x w' => cases x <;> first | exact h | exact (h : False).elim
theorem kea (l : Nat) (hd : ∀ (i : Nat) (o : Oper), ops[i]? = some o → ∀ c, o.op ≠ .defer c) (hQ : ¬ LetsOut Q) :
 ∀ (fuel : Nat) (listed : Array Bool) (a : Act) (w : World), wpAny P md ops Q fuel listed a w → wpAnyIn (Fence.wide.inRound l) n P md ops Q fuel listed a w
 | 0, _, _, _, h => h
 | fuel + 1, listed, a, w, h => ⟨h.1, fun i hi => by
    have h2 := h.2 i hi
    unfold wpOp at h2
    unfold wpOpIn
    split at h2
    · rename_i ho
      rw [ho]
      exact kea l hd hQ fuel _ _ _ h2
    · rename_i o ho
      rw [ho]
      dsimp only
      split at h2
      · rename_i hw
        rw [if_pos hw]
        rcases h2 with h2 | h2
        · exact Oper.wpIn_mono (fun a w h3 => kea l hd hQ fuel _ a w h3) (kr0 l (hd i o ho) h2)
        · exact absurd h2.2 hQ
      · rename_i hw
        rw [if_neg hw]
        exact ⟨fun _ _ => trivial, kea l hd hQ fuel _ _ _ h2⟩⟩
end
end Licit
namespace Licit
open Go Go.Lib
def khd : Bs := [115, 101, 99, 114, 101, 116]
def kkq : Bs := [112, 117, 98, 108, 105, 99]
def kkn : Bs := [108, 101, 97, 102]
theorem kmj (l : List Bs) : (hsh l).length = 32 := Sha.sha_len _
def kbr (seed : Bs) (i b v : Int) : Bs := hsh [khd, seed, num i, num b, num v]
def koe (s : Bs) : Bs := hsh [kkq, s]
def k15 (parts : List Bs) : Bs := hsh (kkn :: parts)
theorem kqw (s : Bs) : (koe s).length = 32 := Sha.sha_len _
theorem kej (seed : Bs) (i b v : Int) : (kbr seed i b v).length = 32 := Sha.sha_len _
def kqd (seed : Bs) (i : Int) (m : Nat) : Bs := koe (kbr seed i ((m / 2 : Nat) : Int) ((m % 2 : Nat) : Int))
def kda (seed : Bs) (i : Int) (n : Nat) : List Bs := (List.range n).map (kqd seed i)
theorem kg8 (seed : Bs) (i : Int) (n : Nat) : kda seed i (n + 1) = kda seed i n ++ [kqd seed i n] := by simp [kda, List.range_succ]
theorem kfa (seed : Bs) (i : Int) (n : Nat) : (kda seed i n).length = n := by simp [kda]
theorem kj2 (seed : Bs) (i : Int) (k j : Nat) (hj : j < 2) : kqd seed i (2 * k + j) = koe (kbr seed i (k : Int) (j : Int)) := by
 unfold kqd
 rw [show (2 * k + j) / 2 = k by omega, show (2 * k + j) % 2 = j by omega]
def k2j (seed : Bs) (b : Nat) (i : Int) : Bs := k15 (kda seed i (2 * b))
def knt (seed : Bs) (b i : Nat) : Bs := k2j seed b (i : Int)
def kdf (seed : Bs) (b : Nat) (n : Nat) : List Bs := (List.range n).map (knt seed b)
theorem ki8 (seed : Bs) (b n : Nat) : kdf seed b (n + 1) = kdf seed b n ++ [knt seed b n] := by simp [kdf, List.range_succ]
theorem kdl (seed : Bs) (b n : Nat) : (kdf seed b n).length = n := by simp [kdf]
def kfv (l : List Bs) (n : Nat) : List Bs := (List.range n).map fun i => kep (l.getD (2 * i) []) (l.getD (2 * i + 1) [])
theorem kpn (l : List Bs) (n : Nat) : kfv l (n + 1) = kfv l n ++ [kep (l.getD (2 * n) []) (l.getD (2 * n + 1) [])] := by simp [kfv, List.range_succ]
theorem krc (l : List Bs) (n : Nat) : (kfv l n).length = n := by simp [kfv]
def ko5 (l : List Bs) : List Bs := kfv l (l.length / 2)
theorem kkg (l : List Bs) : (ko5 l).length = l.length / 2 := krc _ _
def k1d (l : List Bs) : Nat → List Bs
 | 0 => l
 | j + 1 => ko5 (k1d l j)
theorem kp2 {l : List Bs} {h : Nat} (hl : l.length = 2 ^ h) : ∀ j, j ≤ h → (k1d l j).length = 2 ^ (h - j)
 | 0, _ => hl
 | j + 1, hj => by
   rw [k1d, kkg, kp2 hl j (by omega), show h - j = (h - (j + 1)) + 1 by omega, Nat.pow_succ]
   omega
def kyb (seed : Bs) (b h : Nat) : List Bs := kdf seed b (2 ^ h)
def kd8 (seed : Bs) (b h j : Nat) : List Bs := k1d (kyb seed b h) j
theorem kjn (seed : Bs) (b h : Nat) {j : Nat} (hj : j ≤ h) : (kd8 seed b h j).length = 2 ^ (h - j) := kp2 (kdl _ _ _) j hj
def keq (d : Bs) (b : Nat) : Nat := (d.getD (b / 8) 0).toNat / 2 ^ (7 - b % 8) % 2
theorem kqm (d : Bs) (b : Nat) : keq d b < 2 := Nat.mod_lt _ (by decide)
def kcz (seed d : Bs) (i : Int) (n : Nat) : List Bs := (List.range n).map fun (b : Nat) => kbr seed i (b : Int) (keq d b : Int)
def kb5 (seed d : Bs) (i : Int) (n : Nat) : List Bs := (List.range n).map fun (b : Nat) => koe (kbr seed i (b : Int) (1 - (keq d b : Int)))
def kdc (seed : Bs) (b h i n : Nat) : List Bs := (List.range n).map fun j => (kd8 seed b h j).getD ((i / 2 ^ j) ^^^ 1) []
theorem kkl (seed d : Bs) (i : Int) (n : Nat) : kcz seed d i (n + 1) = kcz seed d i n ++ [kbr seed i (n : Int) (keq d n : Int)] := by simp [kcz, List.range_succ]
theorem kiv (seed d : Bs) (i : Int) (n : Nat) : kb5 seed d i (n + 1) = kb5 seed d i n ++ [koe (kbr seed i (n : Int) (1 - (keq d n : Int)))] := by simp [kb5, List.range_succ]
theorem kke (seed : Bs) (b h i n : Nat) : kdc seed b h i (n + 1) = kdc seed b h i n ++ [(kd8 seed b h n).getD ((i / 2 ^ n) ^^^ 1) []] := by simp [kdc, List.range_succ]
theorem kgo (seed d : Bs) (i : Int) (n : Nat) : (kcz seed d i n).length = n := by simp [kcz]
theorem kfp (seed d : Bs) (i : Int) (n : Nat) : (kb5 seed d i n).length = n := by simp [kb5]
theorem kgp (seed : Bs) (b h i n : Nat) : (kdc seed b h i n).length = n := by simp [kdc]
theorem kxj {seed : Bs} {b h : Nat} : ∀ j, ∀ x ∈ kd8 seed b h j, x.length = 32
 | 0, x, hx => by
   obtain ⟨m, _, rfl⟩ := List.mem_map.1 hx
   exact kmj _
 | j + 1, x, hx => by
   obtain ⟨m, _, rfl⟩ := List.mem_map.1 hx
   exact kmj _
theorem kqv {i h j : Nat} (hi : i < 2 ^ h) (hj : j < h) : (i / 2 ^ j) ^^^ 1 < 2 ^ (h - j) := by
 rw [show h - j = (h - j - 1) + 1 by omega]
 refine Nat.xor_lt_two_pow ?_ (Nat.one_lt_two_pow (by omega))
 rw [show h - j - 1 + 1 = h - j by omega]
 refine Nat.div_lt_of_lt_mul ?_
 rw [← Nat.pow_add, show j + (h - j) = h by omega]
 exact hi
end Licit
namespace Go.Proofs
open Go.Shelf
def Tryz.laysNm216_ren : Go.Shelf.Ren := ⟨fun | 16 => 136 | n => n, fun | 24 => 39 | 9 => 9 | 4 => 4 | n => n, fun | n => n⟩
theorem Tryz.laysNm216 : Go.Proofs.Lays2.n16 Tryz.prog Tryz.laysNm216_ren := {
 mixed := by kernel_rfl
 f16 := Tryz.func136.trans (congrArg some (by kernel_rfl))
 t4 := Tryz.underlying4
 a4 := Tryz.isAgg4
 z4 := Tryz.sizeOf4
 v4 := Tryz.zeroValue4
 t9 := Tryz.underlying9
 a9 := Tryz.isAgg9
 z9 := Tryz.sizeOf9
 v9 := Tryz.zeroValue9
 t24 := Tryz.underlying39
 a24 := Tryz.isAgg39
 z24 := Tryz.sizeOf39
 v24 := Tryz.zeroValue39
 i9 := by kernel_rfl }
open Go.RowKit Go.Lib in
theorem Tryz.slices_Clone_string (b off n c : Nat) (zs : List ByteArray) (w : World) (hz : n ≤ zs.length) (hbig : n * 16 ≤ 140737488355328) (hc : ∀ j, j < zs.length → w.cell? ⟨b, off + j, none⟩ = some (.string (zs.getD j ByteArray.empty))) :
 Calls Tryz.prog 136 #[.slice (some ⟨b, off, none⟩) n c] w fun e w' => ∃ v', e = .returned v' ∧ w'.ownsRow w.heap.size 9 1 v' n ((zs.take n).map (Value.string)) ∧ v' ≠ .slice none 0 0 ∧ Below w.heap.size w w' := Any.slices_Clone_string Tryz.laysNm216 b off n c zs w hz hbig hc
open Go.RowKit Go.Lib in
theorem Tryz.slices_Clone_string_nil (n c : Nat) (w : World) :
 Calls Tryz.prog 136 #[.slice none n c] w fun e w' => e = .returned (.slice none 0 0) ∧ w' = w := Any.slices_Clone_string_nil Tryz.laysNm216 n c w
open Go.RowKit Go.Lib in
theorem Tryz.slices_Clone_string_zero (a : Addr) (c : Nat) (w : World) :
 Calls Tryz.prog 136 #[.slice (some a) 0 c] w fun e w' => ∃ v', e = .returned v' ∧ w'.ownsRow w.heap.size 9 1 v' 0 [] ∧ v' ≠ .slice none 0 0 ∧ Below w.heap.size w w' := Any.slices_Clone_string_zero Tryz.laysNm216 a c w
end Go.Proofs
namespace Go.Proofs.YtknpbekoenbphaaGreatDoor
open Go Go.RowKit Licit
theorem Tryz.infoStr : (Tryz.prog.info? 9).map (fun i => (i.zero, i.size, i.bytes)) = some (some (.string ⟨#[]⟩), 1, 16) := by kernel_rfl
theorem kj1 (v : Value) (xs : List Bs) (w : World) (h : IsSl v (xs.map vS) w) (hl : ∀ x ∈ xs, x.length ≤ maxLen) (ht : Tab w) :
 kcg 145 #[v] w (.string (B (hsh xs))) := by
 have HT := hdd (kd2 v xs w h hl ht)
 have hln := knb xs
 obtain ⟨T, hT⟩ : ∃ T, (ka7 kar xs).1 = T := ⟨_, rfl⟩
 obtain ⟨R, hR⟩ : ∃ R, hsh xs = R := ⟨_, rfl⟩
 have hS : Sha.sha T = R := by rw [← hT, ← hR]; rfl
 rw [hT] at HT hln
 rw [hR]
 have HS := hdd hS
 clear hT hR hS h hl
 go_enter Tryz.func145, Tryz.ntmps145
 go_wp2_with (first
  | (go_at_call 154; refine HT.out.mono ?_; rintro e w1 ⟨rfl, hb1⟩; have Hb1 := hdd hb1; clear hb1)
  | (go_at_call 89; refine (klw T _ hln).mono ?_; rintro e w2 ⟨rfl, hb2⟩; have Hb2 := hdd hb2; clear hb2))
 go_ret
 exact ⟨congrArg (fun x => Ending.returned (.string (B x))) HS.out, Hb1.out.trans (Hb2.out.mono Hb1.out.size)⟩
theorem klr (s : Bs) (w : World) (hs : s.length ≤ maxLen) (ht : Tab w) : kcg 142 #[.string (B s)] w (.string (B (koe s))) := by
 have hsl : IsSl (.slice (some ⟨w.heap.size, 0, none⟩) 2 2) ([kkq, s].map vS) (w.alloc (.cells #[.string ⟨#[112, 117, 98, 108, 105, 99]⟩, .string (B s)] 9)) := kd7 (xs := [kkq, s].map vS) (kak _ _) rfl (by simp [maxLen]) (by simp)
 have hb : Below w.heap.size w (w.alloc (.cells #[.string ⟨#[112, 117, 98, 108, 105, 99]⟩, .string (B s)] 9)) := (Below.refl _ _).alloc (Nat.le_refl _) _
 have HM := hdd (kj1 _ [kkq, s] _ hsl (by intro x hx; simp at hx; rcases hx with rfl | rfl; decide; exact hs) (ht.same hb))
 clear hsl
 have Hb := hdd hb
 clear hb
 go_enter Tryz.func142, Tryz.ntmps142
 go_wp2_with (go_at_call 145; refine HM.out.mono ?_; rintro e w1 ⟨rfl, hb1⟩; have Hb1 := hdd hb1; clear hb1)
 go_ret
 exact ⟨rfl, Hb.out.trans (Hb1.out.mono Hb.out.size)⟩
theorem ktm (n : Int) : (num n).length ≤ maxLen := by
 unfold num ke2
 split
 · simp [maxLen]
 · rename_i h
   have := Lib.itoa_length_le n (by omega) (by omega)
   unfold Lib.itoa at this
   rw [if_neg (by omega)] at this
   simp [maxLen]
   omega
theorem kia (seed : Bs) (i b v : Int) (w : World) (hs : seed.length ≤ maxLen) (ht : Tab w) : kcg 196 #[.string (B seed), .int .i64 i, .int .i64 b, .int .i64 v] w (.string (B (kbr seed i b v))) := by
 go_enter Tryz.func196, Tryz.ntmps196
 go_wp2_with fail
 refine (kd6 i _ ht).mono ?_
 rintro e w1 ⟨rfl, hb1⟩
 have ht1 := ht.same hb1
 have Hb1 := hdd hb1
 clear hb1
 go_wp2_with fail
 refine (kd6 b _ ht1).mono ?_
 rintro e w2 ⟨rfl, hb2⟩
 have ht2 := ht1.same hb2
 have Hb2 := hdd hb2
 clear hb2
 go_wp2_with fail
 refine (kd6 v _ ht2).mono ?_
 rintro e w3 ⟨rfl, hb3⟩
 have ht3 := ht2.same hb3
 have Hb3 := hdd hb3
 clear hb3
 go_wp2_with fail
 have hsl : IsSl (.slice (some ⟨w3.heap.size, 0, none⟩) 5 5) ([khd, seed, num i, num b, num v].map vS) (w3.alloc (.cells #[.string ⟨#[115, 101, 99, 114, 101, 116]⟩, .string (B seed), .string (B (num i)), .string (B (num b)), .string (B (num v))] 9)) := kd7 (xs := [khd, seed, num i, num b, num v].map vS) (kak _ _) rfl (by simp [maxLen]) (by simp)
 have hb4 : Below w3.heap.size w3 (w3.alloc (.cells #[.string ⟨#[115, 101, 99, 114, 101, 116]⟩, .string (B seed), .string (B (num i)), .string (B (num b)), .string (B (num v))] 9)) := (Below.refl _ _).alloc (Nat.le_refl _) _
 refine (kj1 _ [khd, seed, num i, num b, num v] _ hsl (by
  intro x hx
  simp only [List.mem_cons, List.not_mem_nil, or_false] at hx
  rcases hx with rfl | rfl | rfl | rfl | rfl
  · decide
  · exact hs
  all_goals exact ktm _) (ht3.same hb4)).mono ?_
 rintro e w5 ⟨rfl, hb5⟩
 have Hb4 := hdd hb4
 have Hb5 := hdd hb5
 clear hb4 hb5 hsl
 go_wp2
 go_ret
 exact ⟨rfl, (((Hb1.out.next Hb2.out).next Hb3.out).next Hb4.out).next Hb5.out⟩
theorem kfi (seed : Bs) (i b v : Int) (w : World) (hs : seed.length ≤ maxLen) : kcg 151 #[.string (B seed), .int .i64 i, .int .i64 b, .int .i64 v] w (.string (B (kbr seed i b v))) := by
 go_enter Tryz.func151, Tryz.ntmps151
 go_wp2_with fail
 refine (kmv i _).mono ?_
 rintro e w1 ⟨rfl, hb1⟩
 have Hb1 := hdd hb1
 clear hb1
 go_wp2_with fail
 refine (kmv b _).mono ?_
 rintro e w2 ⟨rfl, hb2⟩
 have Hb2 := hdd hb2
 clear hb2
 go_wp2_with fail
 refine (kmv v _).mono ?_
 rintro e w3 ⟨rfl, hb3⟩
 have Hb3 := hdd hb3
 clear hb3
 go_wp2_with fail
 have hsl : IsSl (.slice (some ⟨w3.heap.size, 0, none⟩) 5 5) ([khd, seed, num i, num b, num v].map vS) (w3.alloc (.cells #[.string ⟨#[115, 101, 99, 114, 101, 116]⟩, .string (B seed), .string (B (num i)), .string (B (num b)), .string (B (num v))] 9)) := kd7 (xs := [khd, seed, num i, num b, num v].map vS) (kak _ _) rfl (by simp [maxLen]) (by simp)
 have hb4 : Below w3.heap.size w3 (w3.alloc (.cells #[.string ⟨#[115, 101, 99, 114, 101, 116]⟩, .string (B seed), .string (B (num i)), .string (B (num b)), .string (B (num v))] 9)) := (Below.refl _ _).alloc (Nat.le_refl _) _
 refine (k0d _ [khd, seed, num i, num b, num v] _ hsl (by
  intro x hx
  simp only [List.mem_cons, List.not_mem_nil, or_false] at hx
  rcases hx with rfl | rfl | rfl | rfl | rfl
  · decide
  · exact hs
  all_goals exact ktm _)).mono ?_
 rintro e w5 ⟨rfl, hb5⟩
 have Hb4 := hdd hb4
 have Hb5 := hdd hb5
 clear hb4 hb5 hsl
 go_wp2
 go_ret
 exact ⟨rfl, (((Hb1.out.next Hb2.out).next Hb3.out).next Hb4.out).next Hb5.out⟩
theorem kgr (b : Int) (h : Nat) (w : World) (hh : h ≤ 6) : kcg 125 #[.agg #[.int .i64 b, .int .i64 (h : Int)]] w (.int .i64 ((2 ^ h : Nat) : Int)) := by
 have h' : h = 0 ∨ h = 1 ∨ h = 2 ∨ h = 3 ∨ h = 4 ∨ h = 5 ∨ h = 6 := by omega
 rcases h' with rfl | rfl | rfl | rfl | rfl | rfl | rfl
 all_goals
  go_enter Tryz.func125, Tryz.ntmps125
  go_wp2
  go_ret
  exact ⟨rfl, (Below.refl _ _).alloc (Nat.le_refl _) _⟩
theorem kvy (v : Value) (xs : List Bs) (w : World) (h : IsSl v (xs.map vS) w) (hl : ∀ x ∈ xs, x.length ≤ maxLen) (hn : xs.length ≤ 100000) (ht : Tab w) :
 kcg 144 #[v] w (.string (B (k15 xs))) := by
 obtain ⟨i0, hi, hz0, hz1, hz2⟩ := info_parts Tryz.infoStr
 have Hi := hdd hi
 have Hz0 := hdd hz0
 have Hz1 := hdd hz1
 have Hz2 := hdd hz2
 clear hi hz0 hz1 hz2
 have HL := hdd hl
 clear hl
 rcases h.2 with ⟨a, cap, rfl, hx⟩ | ⟨b, off, cap, rfl, h0, hc⟩
 · obtain rfl : xs = [] := by simpa using hx
   clear hx h
   have hb : Below w.heap.size w (w.alloc (.cells #[.string ⟨#[108, 101, 97, 102]⟩] 9)) := (Below.refl _ _).alloc (Nat.le_refl _) _
   have HM := hdd (kj1 (.slice (some ⟨w.heap.size, 0, none⟩) 1 1) [kkn] _ (kd7 (xs := [kkn].map vS) (kak w (.cells #[.string ⟨#[108, 101, 97, 102]⟩] 9)) rfl (by simp [maxLen]) (by simp)) (by intro x hx; simp at hx; subst hx; decide) (ht.same hb))
   have Hb := hdd hb
   clear hb
   cases a
   all_goals
    go_enter Tryz.func144, Tryz.ntmps144
    go_wp2_with fail
    refine HM.out.mono ?_
    rintro e w2 ⟨rfl, hb2⟩
    have Hb2 := hdd hb2
    clear hb2
    go_wp2
    go_ret
    exact ⟨rfl, Hb.out.next Hb2.out⟩
 · rw [List.length_map] at h0 hc ⊢
   have hcells : ∀ j u, (xs.map vS)[j]? = some u → (w.alloc (.cells #[.string ⟨#[108, 101, 97, 102]⟩] 9)).cell? ((⟨b, off, none⟩ : Addr).add j) = some u := by
    intro j u hu
    have hj : j < xs.length := by
     rcases Nat.lt_or_ge j xs.length with c | c
     · exact c
     · rw [List.getElem?_eq_none (by simpa using c)] at hu; cases hu
    rw [Addr.add_lit]
    have h1 := hc j hj
    rw [World.cell?_alloc_lt _ _ _ (World.block_lt_of_cell? w _ (h1.trans hu))]
    exact h1.trans hu
   clear hc h
   go_enter Tryz.func144, Tryz.ntmps144
   go_wp2_with (at_builtin
                refine wpList_append_own _ rfl _ _ 39 rfl w.heap.size 9 i0 (.string ⟨#[]⟩) 1 16 Tryz.underlying39 Hi.out Hz0.out Hz1.out Hz2.out rfl (by decide) (.slice (some ⟨w.heap.size, 0, none⟩) 1 1) 1 [vS kkn] rfl (kc3 (kak _ _) (Nat.le_refl _) rfl (by decide)) ⟨b, off, none⟩ xs.length cap (xs.map vS) rfl (by simp) hcells (by intro u hu; obtain ⟨x, _, rfl⟩ := List.mem_map.1 hu; rfl) (by unfold maxLen; omega) (by omega) (by simp) ?_
                intro v' w1 ho hg _
                have hb1 : Below w.heap.size w w1 := ((Below.refl _ _).alloc (Nat.le_refl _) _).grown hg (by simp) (by simp [Value.ownBlock])
                have hsl : IsSl v' ((kkn :: xs).map vS) w1 := IsSl.of_owns (base := w.heap.size) (e := 9) (by rw [List.length_map, List.length_cons, Nat.add_comm]; exact ho) (by rw [List.length_map, List.length_cons]; unfold maxLen; omega)
                have HM := hdd (kj1 v' (kkn :: xs) w1 hsl (by intro x hx; rcases List.mem_cons.1 hx with rfl | hx; decide; exact HL.out x hx) (ht.same hb1))
                have Hb1 := hdd hb1
                clear ho hg hb1 hsl)
   refine HM.out.mono ?_
   rintro e w2 ⟨rfl, hb2⟩
   have Hb2 := hdd hb2
   clear hb2
   go_wp2
   go_ret
   exact ⟨rfl, Hb1.out.next Hb2.out⟩
theorem kvu {w : World} {o : Nat} {x y : Value} {t : TypeId} {fr : Nat × Nat} (hb : w.heap[o]? = some (.cells #[x, y] t fr)) : ∀ j u, [x, y][j]? = some u → w.cell? ((⟨o, 0, none⟩ : Addr).add j) = some u := fun j u hu => by
 have hadd : (⟨o, 0, none⟩ : Addr).add j = ⟨o, j, none⟩ := by unfold Addr.add; split <;> simp_all
 rw [hadd, kab hb]
 simpa using hu
theorem kdq {α β : Type} (f : α → β) (l : List α) (x : α) : (l ++ [x]).map f = l.map f ++ [f x] := by simp
theorem kzb (seed : Bs) (b : Nat) (h i : Int) (w : World) (hs : seed.length ≤ maxLen) (hb : b ≤ 256) (ht : Tab w) :
 kcg 197 #[.string (B seed), .agg #[.int .i64 (b : Int), .int .i64 h], .int .i64 i] w (.string (B (k2j seed b i))) := by
 obtain ⟨i0, hi, hz0, hz1, hz2⟩ := info_parts Tryz.infoStr
 have Hi := hdd hi
 have Hz0 := hdd hz0
 have Hz1 := hdd hz1
 have Hz2 := hdd hz2
 clear hi hz0 hz1 hz2
 go_enter Tryz.func197, Tryz.ntmps197
 go_wp2
 go_loopw [7, 12] (fun v n wr => ∃ k : Nat, k ≤ b ∧ n = .int .i64 k ∧ wr.ownsRow w.heap.size 9 1 v (2 * k) ((kda seed i (2 * k)).map vS) ∧ Below w.heap.size w wr) (fun _ n _ => b - (intOf n).toNat)
 case atStart => exact ⟨0, by omega, rfl, World.ownsRow_nil _ _ _ _, (Below.refl _ _).alloc (Nat.le_refl _) _⟩
 case round =>
  obtain ⟨k, hk, rfl, hO, hB⟩ := hrel
  have HO := hdd hO
  have HB := hdd hB
  clear hO hB
  by_cases hlt : k < b
  · go_wp2
    go_loopw [7, 15] (fun v n wx => ∃ j : Nat, j ≤ 2 ∧ n = .int .i64 j ∧ wx.ownsRow w.heap.size 9 1 v (2 * k + j) ((kda seed i (2 * k + j)).map vS) ∧ Below w.heap.size w wx) (fun _ n _ => 2 - (intOf n).toNat)
    case atStart => exact ⟨0, by omega, rfl, HO.out, HB.out⟩
    case round =>
     obtain ⟨j, hj, rfl, hO, hB⟩ := hrel
     by_cases hlj : j < 2
     · have htr := ht.same hB
       have HO := hdd hO
       have HB := hdd hB
       clear hO hB
       go_wp2_with (first
        | (go_at_call 196
           refine (kia seed i (k : Int) (j : Int) _ hs htr).mono ?_
           rintro e w1 ⟨rfl, hb1⟩
           have ht1 := htr.same hb1
           have Hb1 := hdd hb1
           clear hb1)
        | (go_at_call 142
           refine (klr (kbr seed i (k : Int) (j : Int)) _ (kgw (kej _ _ _ _)) ht1).mono ?_
           rintro e w2 ⟨rfl, hb2⟩
           have hb2' := HB.out.next (Hb1.out.next hb2)
           have HO2 := hdd (kaf HO.out (fun q _ hq => (Hb1.out.next hb2).block q hq))
           have Hb2 := hdd hb2'
           clear hb2 hb2')
        | (at_builtin
           refine wpList_append_own _ rfl _ _ 39 rfl w.heap.size 9 i0 (.string ⟨#[]⟩) 1 16 Tryz.underlying39 Hi.out Hz0.out Hz1.out Hz2.out rfl (by decide) _ (2 * k + j) ((kda seed i (2 * k + j)).map vS) rfl (HO2.out.alloc _) ⟨w2.heap.size, 0, none⟩ 1 1 [vS (koe (kbr seed i (k : Int) (j : Int)))] rfl rfl (kbm (kak _ _)) (by simp [vS, Value.oneCell']) (by unfold maxLen; omega) (by omega) (by have := Hb2.out.size; simp; omega) ?_
           intro v3 w3 ho3 hg3 _
           rw [← kj2 seed i k j hlj, ← kdq, ← kg8] at ho3
           have hb3 : Below w.heap.size w w3 := (Hb2.out.alloc Hb2.out.size _).grown hg3 (by have := Hb2.out.size; simp; omega) (fun q hq => by have := HO2.out.lt q hq; exact this.1)
           have HO3 := hdd ho3
           have HB3 := hdd hb3
           clear ho3 hg3 hb3))
       go_roundw
       case rel => exact ⟨j + 1, by omega, by go_num, HO3.out, HB3.out⟩
       case measure => simp [intOf]; omega
     · obtain rfl : j = 2 := by omega
       have HO := hdd hO
       have HB := hdd hB
       clear hO hB
       go_wp2
       go_roundw
       case rel =>
        first
         | exact ⟨k + 1, by omega, by go_num, HO.out, HB.out⟩
         | ((repeat apply Exists.intro); exact ⟨⟨k + 1, by omega, by go_num, HO.out, HB.out⟩, rfl⟩)
       case measure => simp [intOf]; omega
  · obtain rfl : k = b := by omega
    have hsl := IsSl.of_owns (xs := (kda seed i (2 * k)).map vS) (by rw [List.length_map, kfa]; exact HO.out) (by rw [List.length_map, kfa]; unfold maxLen; omega)
    have HM := hdd (kvy _ (kda seed i (2 * k)) wr hsl (by
     intro x hx
     obtain ⟨m, _, rfl⟩ := List.mem_map.1 hx
     exact kgw (kqw _)) (by rw [kfa]; omega) (ht.same HB.out))
    clear hsl
    go_wp2_with (go_at_call 144; refine HM.out.mono ?_; rintro e w2 ⟨rfl, hb2⟩; have Hb2 := hdd hb2; clear hb2)
    go_ret
    exact ⟨rfl, HB.out.next Hb2.out⟩
theorem ks6 {l : List Bs} {cs : Array Value} (n : Nat) (hn : l.length = n) (h0 : 0 < n) (hc : l.map vS = cs.toList) (hm : n ≤ 1000) (hl : ∀ x ∈ l, x.length ≤ maxLen) (W : World) (ht : Tab W) :
 kcg 145 #[.slice (some ⟨W.heap.size, 0, none⟩) n n] (W.alloc (.cells cs 9)) (.string (B (hsh l))) := by
 subst hn
 refine kj1 _ l _ ?_ hl (ht.same ((Below.refl _ _).alloc (Nat.le_refl _) _))
 have := kd7 (cap := l.length) (kak W (.cells cs 9)) hc (by rw [List.length_map]; unfold maxLen; omega) (by rw [List.length_map]; exact h0)
 rw [List.length_map] at this
 exact this
theorem kim (s : Bs) (hs : s.length ≤ maxLen) (W : World) : Calls Tryz.prog 48 #[.slice (some ⟨W.heap.size, 0, none⟩) 2 2] (W.alloc (.cells #[.string ⟨#[112, 117, 98, 108, 105, 99]⟩, .string (B s)] 9)) fun e w' => e = .returned (.string (B (koe s))) ∧ Below W.heap.size W w' :=
 kcg.alloc (kj8 (l := [kkq, s]) 2 rfl (by decide) rfl (by decide) (by intro x hx; simp at hx; rcases hx with rfl | rfl; decide; exact hs) W)
theorem krn (seed : Bs) (i : Int) (k : Nat) : kda seed i (2 * (k + 1)) = kda seed i (2 * k) ++ [koe (kbr seed i (k : Int) 0), koe (kbr seed i (k : Int) 1)] := by
 have h0 := kj2 seed i k 0 (by decide)
 have h1 := kj2 seed i k 1 (by decide)
 rw [show 2 * (k + 1) = 2 * k + 1 + 1 by omega, kg8, kg8, h1, show 2 * k = 2 * k + 0 from rfl, h0, List.append_assoc]
 rfl
theorem ktd (seed : Bs) (b : Nat) (i : Int) (w : World) (hs : seed.length ≤ maxLen) (hb : b ≤ 256) :
 kcg 193 #[.string (B seed), .int .i64 (b : Int), .int .i64 i] w (.string (B (k2j seed b i))) := by
 obtain ⟨i0, hi, hz0, hz1, hz2⟩ := info_parts Tryz.infoStr
 have Hi := hdd hi
 have Hz0 := hdd hz0
 have Hz1 := hdd hz1
 have Hz2 := hdd hz2
 clear hi hz0 hz1 hz2
 go_enter Tryz.func193, Tryz.ntmps193
 go_wp2
 go_loopw [7, 8] (fun v n wr => ∃ k : Nat, k ≤ b ∧ n = .int .i64 k ∧ wr.ownsRow w.heap.size 9 1 v (2 * k + 1) ((kkn :: kda seed i (2 * k)).map vS) ∧ Below w.heap.size w wr) (fun _ n _ => b - (intOf n).toNat)
 case atStart => exact ⟨0, by omega, rfl, kc3 (kak _ _) (Nat.le_refl _) rfl (by decide), (Below.refl _ _).alloc (Nat.le_refl _) _⟩
 case round =>
  obtain ⟨k, hk, rfl, hO, hB⟩ := hrel
  have HO := hdd hO
  have HB := hdd hB
  clear hO hB
  by_cases hlt : k < b
  · go_wp2_with fail
    refine (kfi seed i (k : Int) 0 _ hs).mono ?_
    rintro e w1 ⟨rfl, hb1⟩
    have Hb1 := hdd hb1
    clear hb1
    go_wp2_with fail
    refine (kim (kbr seed i (k : Int) 0) (kgw (kej _ _ _ _)) w1).mono ?_
    rintro e w2 ⟨rfl, hb2⟩
    have Hb2 := hdd hb2
    clear hb2
    go_wp2_with fail
    refine (kfi seed i (k : Int) 1 _ hs).mono ?_
    rintro e w3 ⟨rfl, hb3⟩
    have Hb3 := hdd hb3
    clear hb3
    go_wp2_with fail
    refine (kim (kbr seed i (k : Int) 1) (kgw (kej _ _ _ _)) w3).mono ?_
    rintro e w4 ⟨rfl, hb4⟩
    have hb5 := ((Hb1.out.next Hb2.out).next Hb3.out).next hb4
    have HO5 := hdd (kaf HO.out (fun q _ hq => hb5.block q hq))
    have HB5 := hdd (HB.out.next hb5)
    clear hb4 hb5
    go_wp2_with (first
     | (at_builtin
        go_loud (
        refine wpList_append_own _ rfl _ _ 39 rfl w.heap.size 9 i0 (.string ⟨#[]⟩) 1 16 Tryz.underlying39 Hi.out Hz0.out Hz1.out Hz2.out rfl (by decide) _ (2 * k + 1) ((kkn :: kda seed i (2 * k)).map vS) rfl (HO5.out.alloc _) ⟨w4.heap.size, 0, none⟩ 2 2 [vS (koe (kbr seed i (k : Int) 0)), vS (koe (kbr seed i (k : Int) 1))] rfl rfl (kvu (kak _ _)) (by simp [vS, Value.oneCell']) (by unfold maxLen; omega) (by omega) (by have := HB5.out.size; simp; omega) ?_
        intro v3 w6 ho3 hg3 _
        have ho3' : w6.ownsRow w.heap.size 9 1 v3 (2 * (k + 1) + 1) ((kkn :: kda seed i (2 * (k + 1))).map vS) := by
         rw [krn, show 2 * (k + 1) + 1 = 2 * k + 1 + 2 by omega, ← List.cons_append, List.map_append]
         exact ho3
        have hb3 : Below w.heap.size w w6 := (HB5.out.alloc HB5.out.size _).grown hg3 (by have := HB5.out.size; simp; omega) (fun q hq => by have := HO5.out.lt q hq; exact this.1)
        have HO3 := hdd ho3'
        have HB3 := hdd hb3
        clear ho3 hg3 hb3 ho3')))
    go_roundw
    case rel => exact ⟨k + 1, by omega, by go_num, HO3.out, HB3.out⟩
    case measure => simp [intOf]; omega
  · obtain rfl : k = b := by omega
    have hsl := IsSl.of_owns (xs := (kkn :: kda seed i (2 * k)).map vS) (by rw [List.length_map, List.length_cons, kfa]; exact HO.out) (by rw [List.length_map, List.length_cons, kfa]; unfold maxLen; omega)
    have HM := hdd (k0d _ (kkn :: kda seed i (2 * k)) wr hsl (by
     intro x hx
     rcases List.mem_cons.1 hx with rfl | hx
     · decide
     · obtain ⟨m, _, rfl⟩ := List.mem_map.1 hx
       exact kgw (kqw _)))
    clear hsl
    go_wp2_with (go_at_call 48; refine HM.out.mono ?_; rintro e w2 ⟨rfl, hb2⟩; have Hb2 := hdd hb2; clear hb2)
    go_ret
    exact ⟨rfl, HB.out.next Hb2.out⟩
theorem k1p (xs : List Bs) {j : Nat} (hj : j < xs.length) : (xs.map B).getD j ByteArray.empty = B (xs.getD j []) := by
 rw [List.getD_eq_getElem?_getD, List.getElem?_map, List.getElem?_eq_getElem hj, List.getD_eq_getElem?_getD, List.getElem?_eq_getElem hj]
 rfl
theorem krf (v : Value) (xs : List Bs) (w : World) (h : IsSl v (xs.map vS) w) (hn : xs.length ≤ 100000) :
 Calls Tryz.prog 136 #[v] w fun e w' => ∃ v', e = .returned v' ∧ w'.ownsRow w.heap.size 9 1 v' xs.length (xs.map vS) ∧ Below w.heap.size w w' := by
 rcases h.2 with ⟨a, cap, rfl, hx⟩ | ⟨b, off, cap, rfl, h0, hc⟩
 · obtain rfl : xs = [] := by simpa using hx
   cases a with
   | none =>
     refine (Tryz.slices_Clone_string_nil 0 cap w).mono ?_
     rintro e w' ⟨rfl, rfl⟩
     exact ⟨_, rfl, World.ownsRow_nil _ _ _ _, Below.refl _ _⟩
   | some a =>
     refine (Tryz.slices_Clone_string_zero a cap w).mono ?_
     rintro e w' ⟨v', rfl, ho, _, hb⟩
     exact ⟨v', rfl, ho, hb⟩
 · rw [List.length_map] at h0 hc ⊢
   refine (Tryz.slices_Clone_string b off xs.length cap (xs.map B) w (by simp) (by omega) (fun j hj => ?_)).mono ?_
   · rw [List.length_map] at hj
     rw [hc j hj, kg3 xs hj, k1p xs hj]
   · rintro e w' ⟨v', rfl, ho, _, hb⟩
     refine ⟨v', rfl, ?_, hb⟩
     rw [List.take_of_length_le (by simp), List.map_map] at ho
     exact ho
end Go.Proofs.YtknpbekoenbphaaGreatDoor
