import Derived.Test.YtlaffgojgfdlnaaS34
import Derived.Test.YtlaffgojgfdlnaaN56
set_option linter.unusedVariables false
set_option linter.unusedSimpArgs false
set_option linter.constructorNameAsVariable false
set_option linter.unusedSectionVars false
set_option maxRecDepth 100000
set_option maxHeartbeats 8000000
namespace Go.Proofs.Ytlaffgojgfdlnaa.A
open Go.RowKit Go.Proofs.Ytlaffgojgfdlnaa.P Go.Proofs.YtlaffgojgfdlnaaW.PrintWords Go.Proofs.YtlaffgojgfdlnaaW.PrintMore Go.Proofs.Ytlaffgojgfdlnaa.N Sk Dy
theorem few_wv {f : Fm} (h : f.ok) (b : Nat) : Few (f.wv b).n := by have := (Fm.wv_may h b).2; show nlen _ ≤ 31000; omega
theorem sI_pair {x y u v : Int} (h1 : x ≤ y → u ≤ v) (h2 : y ≤ x → v ≤ u) : (sI (x - y) = -1 ∧ sI (u - v) ≤ 0) ∨ (sI (x - y) = 0 ∧ sI (u - v) = 0) ∨ (sI (x - y) = 1 ∧ 0 ≤ sI (u - v)) := by
  unfold sI
  by_cases e1 : x - y < 0
  · rw [if_pos e1]
    have := h1 (by omega)
    left
    refine ⟨rfl, ?_⟩
    split <;> (try split) <;> omega
  · rw [if_neg e1]
    by_cases e3 : x - y = 0
    · rw [if_pos e3]
      have := h1 (by omega)
      have := h2 (by omega)
      right; left
      exact ⟨rfl, by rw [if_neg (by omega), if_pos (by omega)]⟩
    · rw [if_neg e3]
      have := h2 (by omega)
      right; right
      refine ⟨rfl, ?_⟩
      split <;> (try split) <;> omega
theorem didx2 {α : Type} (x y : α) : ((0 : Int) ≤ 0 ∧ (0 : Int) < (([x, y].length : Nat) : Int)) ∧ ((0 : Int) ≤ 1 ∧ (1 : Int) < (([x, y].length : Nat) : Int)) := by simp
theorem didx3 {α : Type} (x y z : α) : ((0 : Int) ≤ 0 ∧ (0 : Int) < (([x, y, z].length : Nat) : Int)) ∧ ((0 : Int) ≤ 1 ∧ (1 : Int) < (([x, y, z].length : Nat) : Int)) ∧ ((0 : Int) ≤ 2 ∧ (2 : Int) < (([x, y, z].length : Nat) : Int)) := by simp
theorem val_fin {f : Fm} {b : Nat} (h : (f.val b).2 = 0) : b < 2 ^ (f.p + f.w) ∧ f.cl b ≤ 2 := by
  rcases Fm.val_cases (f := f) b with ⟨hv, _⟩ | ⟨hv, _⟩ | ⟨_, k⟩
  · rw [hv] at h; exact absurd h (by decide)
  · rw [hv] at h; exact absurd h (by decide)
  · exact k
section
variable {f : Fm} (h : f.ok)
include h
theorem wide5_snd {b : Nat} (hb : b < 2 ^ (f.p + f.w)) (hc : f.cl b ≤ 3) : Snd Try.prog 34 [.g (fmA f), .a (uA b)] (.g (dA (f.wv b))) := by
  have hb64 := Fm.lt64 h hb
  have c2 := fneg_snd h hb64
  have c4 := fval_snd h hb64
  refine snd_of ttOk mixed Try.func34 Try.ntmps34 rfl (by kernel_rfl) rfl ?_
  unfold Fm.wv
  by_cases h3 : f.cl b = 3
  · rw [if_pos h3]
    have hv : f.val b = (Dy.zero, 1) := by unfold Fm.val; rw [if_neg (by omega), if_pos (by omega)]
    rw [hv, rA_zero'] at c4
    have e : (.g (dA ⟨f.sn b, 1, 5000⟩) : AV) = .g [.b (f.sn b), .v .u32 [1], .i .i64 5000] := by
      show (.g [.b (f.sn b), .v .u32 (parts 1), .i .i64 5000] : AV) = _
      rw [show parts 1 = [1] by decide +kernel]
    rw [e]
    repeat (conv => whnf); first | refine br_tt ?_ | refine br_ff ?_ | refine ⟨_, c2, ?_⟩ | refine ⟨_, c4, ?_⟩ | refine And.intro (by kernel_rfl) ?_ | refine And.intro (by decide) ?_
    rfl
  · rw [if_neg h3]
    have hv : f.val b = ((f.val b).1, 0) := by
      have : (f.val b).2 = 0 := by unfold Fm.val; rw [if_neg (by omega), if_neg (by omega)]
      exact Prod.ext rfl this
    rw [hv] at c4
    repeat (conv => whnf); first | refine br_tt ?_ | refine br_ff ?_ | refine ⟨_, c4, ?_⟩ | refine And.intro (by kernel_rfl) ?_ | refine And.intro (by decide) ?_
    rfl
end
theorem ieeeRises_law (bits mode x y z : Int) (hbits : (Lit.int .i64 bits).wf = true) (hmode : (Lit.int .i64 mode).wf = true) (hx : (Lit.int .u64 x).wf = true) (hy : (Lit.int .u64 y).wf = true) (hz : (Lit.int .u64 z).wf = true) :
    Snd Try.prog 10 [.a (iA bits), .a (iA mode), .a (.i .u64 x), .a (.i .u64 y), .a (.i .u64 z)] (.a (.b true)) := by
  obtain ⟨a, rfl, ha⟩ := u64_nat hx
  obtain ⟨b, rfl, hb⟩ := u64_nat hy
  obtain ⟨c, rfl, hc⟩ := u64_nat hz
  have o1 := fof_snd bits
  refine snd_of ttOk mixed Try.func10 Try.ntmps10 rfl (by kernel_rfl) rfl ?_
  cases hf : fmOf bits with
  | none =>
    rw [hf] at o1
    repeat (conv => whnf); first | refine br_tt ?_ | refine br_ff ?_ | refine ⟨_, awake5_snd, ?_⟩ | refine ⟨_, o1, ?_⟩ | refine And.intro (by kernel_rfl) ?_ | refine And.intro (by decide) ?_
    rfl
  | some f =>
  rw [hf] at o1
  obtain ⟨h, hbt⟩ := fmOf_ok hf
  by_cases m1 : mode < 0
  · have z1 := decide_eq_true m1
    repeat (conv => whnf); first | refine br_tt ?_ | refine br_ff ?_ | refine ⟨_, awake5_snd, ?_⟩ | refine ⟨_, o1, ?_⟩ | refine br_t z1 ?_ | refine And.intro (by kernel_rfl) ?_ | refine And.intro (by decide) ?_
    rfl
  have z1 := decide_eq_false m1
  by_cases m2 : mode ≥ 5
  · have z2 := decide_eq_true m2
    repeat (conv => whnf); first | refine br_tt ?_ | refine br_ff ?_ | refine ⟨_, awake5_snd, ?_⟩ | refine ⟨_, o1, ?_⟩ | refine br_f z1 ?_ | refine br_t z2 ?_ | refine And.intro (by kernel_rfl) ?_ | refine And.intro (by decide) ?_
    rfl
  have z2 := decide_eq_false m2
  have hm : 0 ≤ mode ∧ mode < 5 := by omega
  have o2 := finite3_snd h ha hb hc
  by_cases hq : (f.val a).2 = 0 ∧ (f.val b).2 = 0 ∧ (f.val c).2 = 0
  case neg =>
    rw [if_neg hq] at o2
    repeat (conv => whnf); first | refine br_tt ?_ | refine br_ff ?_ | refine ⟨_, awake5_snd, ?_⟩ | refine ⟨_, o1, ?_⟩ | refine ⟨_, o2, ?_⟩ | refine br_f z1 ?_ | refine br_f z2 ?_ | refine And.intro (by kernel_rfl) ?_ | refine And.intro (by decide) ?_
    rfl
  rw [if_pos hq] at o2
  obtain ⟨q1, q2, q3⟩ := hq
  obtain ⟨la, ca⟩ := val_fin q1
  obtain ⟨lb, cb⟩ := val_fin q2
  obtain ⟨lc, cc⟩ := val_fin q3
  obtain ⟨g0, g1, g2⟩ := didx3 (row (f.val a).1) (row (f.val b).1) (row (f.val c).1)
  obtain ⟨X, Y, s1, f1, s2, f2, S, T, a1, a2, a3, a4, a5, a6, a7, a8, a9, a10⟩ := Fm.add_two h hm la lb lc ca cb cc
  obtain ⟨X', Y', p1, l1, p2, l2, S', T', b1, b2, b3, b4, b5, b6, b7, b8, b9⟩ := Fm.mul_two h hm la lb lc ca cb cc
  have eXY : sI (X' - Y') = sI (X - Y) := by have := a1.symm.trans b1; exact (Prod.mk.inj this).1.symm
  have k0 := dcmp_snd2 (few_val h a) (few_val h b)
  rw [a1] at k0
  have k1 := iadd_snd h mode ha hc
  rw [a2] at k1
  have k2 := iadd_snd h mode hb hc
  rw [a3] at k2
  have k3 := wide5_snd h a4 a6
  have k4 := wide5_snd h a5 a7
  have k5 := dcmp_snd2 (few_wv h s1) (few_wv h s2)
  rw [a8] at k5
  have k6 := imul_snd h mode ha hc
  rw [b2] at k6
  have k7 := imul_snd h mode hb hc
  rw [b3] at k7
  have k8 := wide5_snd h b4 b6
  have k9 := wide5_snd h b5 b7
  have k10 := dcmp_snd2 (few_wv h p1) (few_wv h p2)
  rw [b8] at k10
  have pr := sI_pair a9 a10
  have pt : (f.val c).1.neg = false → _ := fun e => sI_pair (b9 e).1 (b9 e).2
  rw [eXY] at pt
  generalize sI (S - T) = s at *
  generalize sI (S' - T') = t at *
  generalize sI (X - Y) = l at *
  generalize hn : (f.val c).1.neg = n at *
  have hr : (row (f.val c).1).1 = n := hn
  rcases pr with ⟨rfl, es⟩ | ⟨rfl, es⟩ | ⟨rfl, es⟩
  · have y1 : decide (s > 0) = false := decide_eq_false (by omega)
    cases n
    · have et : t ≤ 0 := by rcases pt rfl with ⟨_, e⟩ | ⟨e, _⟩ | ⟨e, _⟩; exact e; omega; omega
      have y2 : decide (t ≤ 0) = true := decide_eq_true et
      repeat (conv => whnf); first | refine br_tt ?_ | refine br_ff ?_ | refine ⟨_, awake5_snd, ?_⟩ | refine ⟨_, o1, ?_⟩ | refine ⟨_, o2, ?_⟩ | refine ⟨_, k0, ?_⟩ | refine ⟨_, k1, ?_⟩ | refine ⟨_, k2, ?_⟩ | refine ⟨_, k3, ?_⟩ | refine ⟨_, k4, ?_⟩ | refine ⟨_, k5, ?_⟩ | refine ⟨_, k6, ?_⟩ | refine ⟨_, k7, ?_⟩ | refine ⟨_, k8, ?_⟩ | refine ⟨_, k9, ?_⟩ | refine ⟨_, k10, ?_⟩ | refine br_f z1 ?_ | refine br_f z2 ?_ | refine br_f hr ?_ | refine br_f y1 ?_ | refine br_t y2 ?_ | refine And.intro g0 ?_ | refine And.intro g1 ?_ | refine And.intro g2 ?_ | refine And.intro (by kernel_rfl) ?_ | refine And.intro (by decide) ?_
      rfl
    · repeat (conv => whnf); first | refine br_tt ?_ | refine br_ff ?_ | refine ⟨_, awake5_snd, ?_⟩ | refine ⟨_, o1, ?_⟩ | refine ⟨_, o2, ?_⟩ | refine ⟨_, k0, ?_⟩ | refine ⟨_, k1, ?_⟩ | refine ⟨_, k2, ?_⟩ | refine ⟨_, k3, ?_⟩ | refine ⟨_, k4, ?_⟩ | refine ⟨_, k5, ?_⟩ | refine ⟨_, k6, ?_⟩ | refine ⟨_, k7, ?_⟩ | refine ⟨_, k8, ?_⟩ | refine ⟨_, k9, ?_⟩ | refine ⟨_, k10, ?_⟩ | refine br_f z1 ?_ | refine br_f z2 ?_ | refine br_t hr ?_ | refine br_f y1 ?_ | refine And.intro g0 ?_ | refine And.intro g1 ?_ | refine And.intro g2 ?_ | refine And.intro (by kernel_rfl) ?_ | refine And.intro (by decide) ?_
      rfl
  · subst es
    cases n
    · have et : t = 0 := by rcases pt rfl with ⟨e, _⟩ | ⟨_, e⟩ | ⟨e, _⟩; omega; exact e; omega
      subst et
      repeat (conv => whnf); first | refine br_tt ?_ | refine br_ff ?_ | refine ⟨_, awake5_snd, ?_⟩ | refine ⟨_, o1, ?_⟩ | refine ⟨_, o2, ?_⟩ | refine ⟨_, k0, ?_⟩ | refine ⟨_, k1, ?_⟩ | refine ⟨_, k2, ?_⟩ | refine ⟨_, k3, ?_⟩ | refine ⟨_, k4, ?_⟩ | refine ⟨_, k5, ?_⟩ | refine ⟨_, k6, ?_⟩ | refine ⟨_, k7, ?_⟩ | refine ⟨_, k8, ?_⟩ | refine ⟨_, k9, ?_⟩ | refine ⟨_, k10, ?_⟩ | refine br_f z1 ?_ | refine br_f z2 ?_ | refine br_f hr ?_ | refine And.intro g0 ?_ | refine And.intro g1 ?_ | refine And.intro g2 ?_ | refine And.intro (by kernel_rfl) ?_ | refine And.intro (by decide) ?_
      rfl
    · repeat (conv => whnf); first | refine br_tt ?_ | refine br_ff ?_ | refine ⟨_, awake5_snd, ?_⟩ | refine ⟨_, o1, ?_⟩ | refine ⟨_, o2, ?_⟩ | refine ⟨_, k0, ?_⟩ | refine ⟨_, k1, ?_⟩ | refine ⟨_, k2, ?_⟩ | refine ⟨_, k3, ?_⟩ | refine ⟨_, k4, ?_⟩ | refine ⟨_, k5, ?_⟩ | refine ⟨_, k6, ?_⟩ | refine ⟨_, k7, ?_⟩ | refine ⟨_, k8, ?_⟩ | refine ⟨_, k9, ?_⟩ | refine ⟨_, k10, ?_⟩ | refine br_f z1 ?_ | refine br_f z2 ?_ | refine br_t hr ?_ | refine And.intro g0 ?_ | refine And.intro g1 ?_ | refine And.intro g2 ?_ | refine And.intro (by kernel_rfl) ?_ | refine And.intro (by decide) ?_
      rfl
  · have y1 : decide (s < 0) = false := decide_eq_false (by omega)
    cases n
    · have et : 0 ≤ t := by rcases pt rfl with ⟨e, _⟩ | ⟨e, _⟩ | ⟨_, e⟩; omega; omega; exact e
      have y2 : decide (t ≥ 0) = true := decide_eq_true et
      repeat (conv => whnf); first | refine br_tt ?_ | refine br_ff ?_ | refine ⟨_, awake5_snd, ?_⟩ | refine ⟨_, o1, ?_⟩ | refine ⟨_, o2, ?_⟩ | refine ⟨_, k0, ?_⟩ | refine ⟨_, k1, ?_⟩ | refine ⟨_, k2, ?_⟩ | refine ⟨_, k3, ?_⟩ | refine ⟨_, k4, ?_⟩ | refine ⟨_, k5, ?_⟩ | refine ⟨_, k6, ?_⟩ | refine ⟨_, k7, ?_⟩ | refine ⟨_, k8, ?_⟩ | refine ⟨_, k9, ?_⟩ | refine ⟨_, k10, ?_⟩ | refine br_f z1 ?_ | refine br_f z2 ?_ | refine br_f hr ?_ | refine br_f y1 ?_ | refine br_t y2 ?_ | refine And.intro g0 ?_ | refine And.intro g1 ?_ | refine And.intro g2 ?_ | refine And.intro (by kernel_rfl) ?_ | refine And.intro (by decide) ?_
      exact congrArg (fun b => AV.a (.b b)) y2
    · repeat (conv => whnf); first | refine br_tt ?_ | refine br_ff ?_ | refine ⟨_, awake5_snd, ?_⟩ | refine ⟨_, o1, ?_⟩ | refine ⟨_, o2, ?_⟩ | refine ⟨_, k0, ?_⟩ | refine ⟨_, k1, ?_⟩ | refine ⟨_, k2, ?_⟩ | refine ⟨_, k3, ?_⟩ | refine ⟨_, k4, ?_⟩ | refine ⟨_, k5, ?_⟩ | refine ⟨_, k6, ?_⟩ | refine ⟨_, k7, ?_⟩ | refine ⟨_, k8, ?_⟩ | refine ⟨_, k9, ?_⟩ | refine ⟨_, k10, ?_⟩ | refine br_f z1 ?_ | refine br_f z2 ?_ | refine br_t hr ?_ | refine br_f y1 ?_ | refine And.intro g0 ?_ | refine And.intro g1 ?_ | refine And.intro g2 ?_ | refine And.intro (by kernel_rfl) ?_ | refine And.intro (by decide) ?_
      rfl
end Go.Proofs.Ytlaffgojgfdlnaa.A
