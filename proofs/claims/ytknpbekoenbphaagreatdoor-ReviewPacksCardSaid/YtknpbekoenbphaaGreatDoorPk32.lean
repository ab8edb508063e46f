/- Parts of the proofs: PlainRd. No condition beyond those at each theorem. -/
import Derived.Test.YtknpbekoenbphaaGreatDoorPk30
set_option linter.unusedVariables false
set_option linter.unusedSimpArgs false
set_option maxHeartbeats 16000000
set_option maxRecDepth 100000
namespace Licit.Rv
open Go Licit
structure InB (e : Ev) : Prop where
 k1 : 1 ≤ e.kind
 k5 : e.kind ≤ 5
 author : e.author.length ≤ 32
 n0 : 0 ≤ e.number
 n1 : e.number ≤ 63
 names : e.names.length ≤ 16
 named : ∀ x ∈ e.names, x.length = 32
 root : e.root.length ≤ 32
 b0 : 0 ≤ e.bits
 b1 : e.bits ≤ 256
 h0 : 0 ≤ e.height
 h1 : e.height ≤ 6
 pkg : e.pkg.length ≤ 32
 digest : e.digest.length ≤ 32
 question : e.question.length ≤ 128
 scope : e.scope.length ≤ 128
 answer : e.answer.length ≤ 200
 t0 : 0 ≤ e.till
 t1 : e.till ≤ 1000
 aims : e.targets.length ≤ 2
 aimed : ∀ x ∈ e.targets, x.length = 32
theorem kpr {s : Bs} (h : nameB s = true) : s.length ≤ 32 := by
 unfold nameB at h
 simp only [Bool.and_eq_true, decide_eq_true_eq] at h
 exact h.1.1.1.2
theorem kmn {s : Bs} {a b : Nat} {c : UInt8} (h : textB s a b c = true) : s.length ≤ b := by
 unfold textB at h
 simp only [Bool.and_eq_true, decide_eq_true_eq] at h
 exact h.1.2
theorem kg5 {s : Bs} (h : digB s = true) : s.length = 32 := by unfold digB at h; simpa using h
theorem valid_in {e : Ev} (h : validB e = true) : InB e := by
 unfold validB at h
 rw [Bool.and_eq_true, Bool.and_eq_true, Bool.and_eq_true, Bool.and_eq_true, Bool.and_eq_true, Bool.and_eq_true] at h
 obtain ⟨⟨⟨⟨⟨⟨ha, hn0⟩, hn1⟩, hnm⟩, hk⟩, hj⟩, hr⟩ := h
 rw [decide_eq_true_eq] at hn0 hn1
 unfold namesB at hnm
 rw [Bool.and_eq_true, Bool.and_eq_true, decide_eq_true_eq, List.all_eq_true] at hnm
 have hnames : ∀ x ∈ e.names, x.length = 32 := fun x hx => kg5 (hnm.1.2 x hx)
 unfold restB at hr
 simp only [Bool.and_eq_true, Bool.or_eq_true, decide_eq_true_eq] at hr
 obtain ⟨⟨⟨⟨r1, r2⟩, r3⟩, r4⟩, r5⟩ := hr
 have haut := kpr ha
 unfold kindB at hk
 by_cases k1 : e.kind = 1
 · rw [if_pos k1] at hk
   simp only [Bool.and_eq_true, decide_eq_true_eq] at hk
   have hkey : 8 ≤ e.bits ∧ e.bits ≤ 256 ∧ 0 ≤ e.height ∧ e.height ≤ 6 := by simpa [kcp] using hk.2
   have e2 : e.pkg = [] := r2.resolve_left (by omega)
   have e3 : e.digest = [] := r3.resolve_left (by omega)
   have e4 := r4.resolve_left (by omega)
   have e5 : e.targets = [] := r5.resolve_left (by omega)
   exact ⟨by omega, by omega, haut, hn0, hn1, hnm.1.1, hnames, by rw [kg5 hk.1.2]; decide, by omega, by omega, by omega, by omega, by simp [e2], by simp [e3], by simp [e4.1.1.1], by simp [e4.1.1.2], by simp [e4.1.2], by omega, by omega, by simp [e5], by simp [e5]⟩
 rw [if_neg k1] at hk
 have e1 := r1.resolve_left k1
 by_cases k2 : e.kind = 2
 · rw [if_pos k2] at hk
   simp only [Bool.and_eq_true] at hk
   have e4 := r4.resolve_left (by omega)
   have e5 : e.targets = [] := r5.resolve_left (by omega)
   exact ⟨by omega, by omega, haut, hn0, hn1, hnm.1.1, hnames, by simp [e1.1.1], by omega, by omega, by omega, by omega, kpr hk.1, by rw [kg5 hk.2]; decide, by simp [e4.1.1.1], by simp [e4.1.1.2], by simp [e4.1.2], by omega, by omega, by simp [e5], by simp [e5]⟩
 rw [if_neg k2] at hk
 have e2 : e.pkg = [] := r2.resolve_left k2
 by_cases k3 : e.kind = 3
 · rw [if_pos k3] at hk
   unfold decidesB at hk
   simp only [Bool.and_eq_true, decide_eq_true_eq] at hk
   have e5 : e.targets = [] := r5.resolve_left (by omega)
   exact ⟨by omega, by omega, haut, hn0, hn1, hnm.1.1, hnames, by simp [e1.1.1], by omega, by omega, by omega, by omega, by simp [e2], by rw [kg5 hk.1.1.2]; decide, kmn hk.1.1.1.1.1, kmn hk.1.1.1.1.2, kmn hk.1.1.1.2, hk.1.2, hk.2, by simp [e5], by simp [e5]⟩
 rw [if_neg k3] at hk
 have e3 : e.digest = [] := r3.resolve_left (by omega)
 have e4 := r4.resolve_left k3
 by_cases k4 : e.kind = 4
 · rw [if_pos k4] at hk
   simp only [Bool.and_eq_true, decide_eq_true_eq] at hk
   refine ⟨by omega, by omega, haut, hn0, hn1, hnm.1.1, hnames, by simp [e1.1.1], by omega, by omega, by omega, by omega, by simp [e2], by simp [e3], by simp [e4.1.1.1], by simp [e4.1.1.2], by simp [e4.1.2], by omega, by omega, by omega, ?_⟩
   match ht : e.targets, hk.1 with
   | [x], _ =>
     intro y hy
     rw [ht] at hk
     rw [List.mem_singleton.1 hy]
     exact kg5 hk.2
 rw [if_neg k4] at hk
 by_cases k5 : e.kind = 5
 · rw [if_pos k5] at hk
   simp only [Bool.and_eq_true, decide_eq_true_eq] at hk
   refine ⟨by omega, by omega, haut, hn0, hn1, hnm.1.1, hnames, by simp [e1.1.1], by omega, by omega, by omega, by omega, by simp [e2], by simp [e3], by simp [e4.1.1.1], by simp [e4.1.1.2], by simp [e4.1.2], by omega, by omega, by omega, ?_⟩
   match ht : e.targets, hk.1.1.1 with
   | [x, z], _ =>
     intro y hy
     rw [ht] at hk
     rcases List.mem_cons.1 hy with rfl | hy
     · exact kg5 hk.1.1.2
     · rw [List.mem_singleton.1 hy]; exact kg5 hk.1.2
 · rw [if_neg k5] at hk; cases hk
end Licit.Rv
