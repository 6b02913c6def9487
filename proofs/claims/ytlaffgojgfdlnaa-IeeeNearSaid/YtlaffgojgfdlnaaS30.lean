/- The contracts of ieee's inner functions and of Turned, for all bits. -/
import Derived.Test.YtlaffgojgfdlnaaS23
import Derived.Test.YtlaffgojgfdlnaaN48
import Derived.Test.YtlaffgojgfdlnaaN57
set_option linter.unusedVariables false
set_option linter.unusedSimpArgs false
set_option linter.constructorNameAsVariable false
set_option linter.unusedSectionVars false
set_option maxRecDepth 100000
set_option maxHeartbeats 8000000
namespace Go.Proofs.Ytlaffgojgfdlnaa.A
open Go.RowKit Go.Proofs.Ytlaffgojgfdlnaa.P Go.Proofs.YtlaffgojgfdlnaaW.PrintWords Go.Proofs.YtlaffgojgfdlnaaW.PrintMore Go.Proofs.Ytlaffgojgfdlnaa.N Sk Dy
/-! ### ieee -/
theorem idx2 (x y : Int) : ((0 : Int) ≤ 0 ∧ (0 : Int) < (([x, y].length : Nat) : Int)) ∧ ((0 : Int) ≤ 1 ∧ (1 : Int) < (([x, y].length : Nat) : Int)) := by simp
theorem idx3 (x y z : Int) : ((0 : Int) ≤ 0 ∧ (0 : Int) < (([x, y, z].length : Nat) : Int)) ∧ ((0 : Int) ≤ 1 ∧ (1 : Int) < (([x, y, z].length : Nat) : Int)) ∧ ((0 : Int) ≤ 2 ∧ (2 : Int) < (([x, y, z].length : Nat) : Int)) := by simp
section
variable {f : Fm} (h : f.ok)
include h
theorem imay2_snd (mode : Int) {a b : Nat} (ha : a < 2 ^ 64) (hb : b < 2 ^ 64) : Snd Try.prog 41 [.g (fmA f), .a (iA mode), .a (.v .u64 [(a : Int), (b : Int)])] (.a (iA (f.mayE mode [a, b]))) := by
  have c1 := fmay_snd h ha
  have c2 := fmay_snd h hb
  obtain ⟨g0, g1⟩ := idx2 (a : Int) (b : Int)
  refine snd_of ttOk mixed Try.func41 Try.ntmps41 rfl (by kernel_rfl) rfl ?_
  unfold Fm.mayE
  by_cases m1 : mode < 0
  · have z1 := decide_eq_true m1
    rw [if_pos (.inl m1)]
    repeat (conv => whnf); first | refine br_tt ?_ | refine br_ff ?_ | refine br_t z1 ?_ | refine And.intro (by kernel_rfl) ?_ | refine And.intro (by decide) ?_
    rfl
  have z1 := decide_eq_false m1
  by_cases m2 : mode ≥ 5
  · have z2 := decide_eq_true m2
    rw [if_pos (.inr m2)]
    repeat (conv => whnf); first | refine br_tt ?_ | refine br_ff ?_ | refine br_f z1 ?_ | refine br_t z2 ?_ | refine And.intro (by kernel_rfl) ?_ | refine And.intro (by decide) ?_
    rfl
  have z2 := decide_eq_false m2
  rw [if_neg (by omega)]
  simp only [List.all_cons, List.all_nil, Bool.and_true]
  generalize decide (a < 2 ^ (f.p + f.w)) = x at *
  generalize decide (b < 2 ^ (f.p + f.w)) = y at *
  cases x <;> cases y
  all_goals
    repeat (conv => whnf); first | refine ⟨4, ?_⟩ | refine br_tt ?_ | refine br_ff ?_ | refine ⟨_, c1, ?_⟩ | refine ⟨_, c2, ?_⟩ | refine br_f z1 ?_ | refine br_f z2 ?_ | refine And.intro g0 ?_ | refine And.intro g1 ?_ | refine And.intro (by kernel_rfl) ?_ | refine And.intro (by decide) ?_
    rfl
theorem imay3_snd (mode : Int) {a b c : Nat} (ha : a < 2 ^ 64) (hb : b < 2 ^ 64) (hc : c < 2 ^ 64) : Snd Try.prog 41 [.g (fmA f), .a (iA mode), .a (.v .u64 [(a : Int), (b : Int), (c : Int)])] (.a (iA (f.mayE mode [a, b, c]))) := by
  have c1 := fmay_snd h ha
  have c2 := fmay_snd h hb
  have c3 := fmay_snd h hc
  obtain ⟨g0, g1, g2⟩ := idx3 (a : Int) (b : Int) (c : Int)
  refine snd_of ttOk mixed Try.func41 Try.ntmps41 rfl (by kernel_rfl) rfl ?_
  unfold Fm.mayE
  by_cases m1 : mode < 0
  · have z1 := decide_eq_true m1
    rw [if_pos (.inl m1)]
    repeat (conv => whnf); first | refine br_tt ?_ | refine br_ff ?_ | refine br_t z1 ?_ | refine And.intro (by kernel_rfl) ?_ | refine And.intro (by decide) ?_
    rfl
  have z1 := decide_eq_false m1
  by_cases m2 : mode ≥ 5
  · have z2 := decide_eq_true m2
    rw [if_pos (.inr m2)]
    repeat (conv => whnf); first | refine br_tt ?_ | refine br_ff ?_ | refine br_f z1 ?_ | refine br_t z2 ?_ | refine And.intro (by kernel_rfl) ?_ | refine And.intro (by decide) ?_
    rfl
  have z2 := decide_eq_false m2
  rw [if_neg (by omega)]
  simp only [List.all_cons, List.all_nil, Bool.and_true]
  generalize decide (a < 2 ^ (f.p + f.w)) = x at *
  generalize decide (b < 2 ^ (f.p + f.w)) = y at *
  generalize decide (c < 2 ^ (f.p + f.w)) = z at *
  cases x <;> cases y <;> cases z
  all_goals
    repeat (conv => whnf); first | refine ⟨5, ?_⟩ | refine br_tt ?_ | refine br_ff ?_ | refine ⟨_, c1, ?_⟩ | refine ⟨_, c2, ?_⟩ | refine ⟨_, c3, ?_⟩ | refine br_f z1 ?_ | refine br_f z2 ?_ | refine And.intro g0 ?_ | refine And.intro g1 ?_ | refine And.intro g2 ?_ | refine And.intro (by kernel_rfl) ?_ | refine And.intro (by decide) ?_
    rfl
omit h in
theorem cl_three (b : Nat) : (decide (((f.cl b : Nat) : Int) < 4) = true ∧ f.cl b < 4) ∨ (decide (((f.cl b : Nat) : Int) < 4) = false ∧ ¬ f.cl b < 4 ∧ (((f.cl b : Nat) : Int) == 5) = false ∧ ¬ f.cl b = 5) ∨ (decide (((f.cl b : Nat) : Int) < 4) = false ∧ ¬ f.cl b < 4 ∧ (((f.cl b : Nat) : Int) == 5) = true ∧ f.cl b = 5) := by
  by_cases h1 : f.cl b < 4
  · exact .inl ⟨decide_eq_true (by omega), h1⟩
  · by_cases h2 : f.cl b = 5
    · exact .inr (.inr ⟨decide_eq_false (by omega), h1, by rw [beq_iff_eq]; omega, h2⟩)
    · exact .inr (.inl ⟨decide_eq_false (by omega), h1, by rw [beq_eq_false_iff_ne]; omega, h2⟩)
abbrev nA3 (r : Nat × Int × Bool) : AV := .t [.a (uA r.1), .a (iA r.2.1), .a (.b r.2.2)]
theorem none2_snd {a b : Nat} (ha : a < 2 ^ 64) (hb : b < 2 ^ 64) : Snd Try.prog 42 [.g (fmA f), .a (.v .u64 [(a : Int), (b : Int)])] (nA3 (f.noneR [a, b])) := by
  have c1 := fcl_snd h ha
  have c2 := fcl_snd h hb
  have c4 := fqui_snd h ha
  have c5 := fqui_snd h hb
  obtain ⟨g0, g1⟩ := idx2 (a : Int) (b : Int)
  refine snd_of ttOk mixed Try.func42 Try.ntmps42 rfl (by kernel_rfl) rfl ?_
  unfold Fm.noneR
  rw [List.foldl_cons, List.foldl_cons, List.foldl_nil]
  rcases cl_three (f := f) a with ⟨x1, x2⟩ | ⟨x1, x2, x3, x4⟩ | ⟨x1, x2, x3, x4⟩
  · rw [show f.nstep (0, 0, false) a = (0, 0, false) from if_pos x2]
    rcases cl_three (f := f) b with ⟨y1, y2⟩ | ⟨y1, y2, y3, y4⟩ | ⟨y1, y2, y3, y4⟩
    · rw [show f.nstep (0, 0, false) b = (0, 0, false) from if_pos y2]
      repeat (conv => whnf); first | refine ⟨4, ?_⟩ | refine br_tt ?_ | refine br_ff ?_ | refine ⟨_, c1, ?_⟩ | refine ⟨_, c2, ?_⟩ | refine ⟨_, c4, ?_⟩ | refine ⟨_, c5, ?_⟩ | refine br_t x1 ?_ | refine br_t y1 ?_ | refine And.intro g0 ?_ | refine And.intro g1 ?_ | refine And.intro (by kernel_rfl) ?_ | refine And.intro (by decide) ?_
      rfl
    · rw [show f.nstep (0, 0, false) b = (f.qui b, 0, true) by unfold Fm.nstep; rw [if_neg y2, if_neg y4]; rfl]
      repeat (conv => whnf); first | refine ⟨4, ?_⟩ | refine br_tt ?_ | refine br_ff ?_ | refine ⟨_, c1, ?_⟩ | refine ⟨_, c2, ?_⟩ | refine ⟨_, c4, ?_⟩ | refine ⟨_, c5, ?_⟩ | refine br_t x1 ?_ | refine br_f y1 ?_ | refine br_f y3 ?_ | refine And.intro g0 ?_ | refine And.intro g1 ?_ | refine And.intro (by kernel_rfl) ?_ | refine And.intro (by decide) ?_
      rfl
    · rw [show f.nstep (0, 0, false) b = (f.qui b, 16, true) by unfold Fm.nstep; rw [if_neg y2, if_pos y4]; rfl]
      repeat (conv => whnf); first | refine ⟨4, ?_⟩ | refine br_tt ?_ | refine br_ff ?_ | refine ⟨_, c1, ?_⟩ | refine ⟨_, c2, ?_⟩ | refine ⟨_, c4, ?_⟩ | refine ⟨_, c5, ?_⟩ | refine br_t x1 ?_ | refine br_f y1 ?_ | refine br_t y3 ?_ | refine And.intro g0 ?_ | refine And.intro g1 ?_ | refine And.intro (by kernel_rfl) ?_ | refine And.intro (by decide) ?_
      rfl
  · rw [show f.nstep (0, 0, false) a = (f.qui a, 0, true) by unfold Fm.nstep; rw [if_neg x2, if_neg x4]; rfl]
    rcases cl_three (f := f) b with ⟨y1, y2⟩ | ⟨y1, y2, y3, y4⟩ | ⟨y1, y2, y3, y4⟩
    · rw [show f.nstep (f.qui a, 0, true) b = (f.qui a, 0, true) from if_pos y2]
      repeat (conv => whnf); first | refine ⟨4, ?_⟩ | refine br_tt ?_ | refine br_ff ?_ | refine ⟨_, c1, ?_⟩ | refine ⟨_, c2, ?_⟩ | refine ⟨_, c4, ?_⟩ | refine ⟨_, c5, ?_⟩ | refine br_f x1 ?_ | refine br_f x3 ?_ | refine br_t y1 ?_ | refine And.intro g0 ?_ | refine And.intro g1 ?_ | refine And.intro (by kernel_rfl) ?_ | refine And.intro (by decide) ?_
      rfl
    · rw [show f.nstep (f.qui a, 0, true) b = (f.qui a, 0, true) by unfold Fm.nstep; rw [if_neg y2, if_neg y4]; rfl]
      repeat (conv => whnf); first | refine ⟨4, ?_⟩ | refine br_tt ?_ | refine br_ff ?_ | refine ⟨_, c1, ?_⟩ | refine ⟨_, c2, ?_⟩ | refine ⟨_, c4, ?_⟩ | refine ⟨_, c5, ?_⟩ | refine br_f x1 ?_ | refine br_f x3 ?_ | refine br_f y1 ?_ | refine br_f y3 ?_ | refine And.intro g0 ?_ | refine And.intro g1 ?_ | refine And.intro (by kernel_rfl) ?_ | refine And.intro (by decide) ?_
      rfl
    · rw [show f.nstep (f.qui a, 0, true) b = (f.qui a, 16, true) by unfold Fm.nstep; rw [if_neg y2, if_pos y4]; rfl]
      repeat (conv => whnf); first | refine ⟨4, ?_⟩ | refine br_tt ?_ | refine br_ff ?_ | refine ⟨_, c1, ?_⟩ | refine ⟨_, c2, ?_⟩ | refine ⟨_, c4, ?_⟩ | refine ⟨_, c5, ?_⟩ | refine br_f x1 ?_ | refine br_f x3 ?_ | refine br_f y1 ?_ | refine br_t y3 ?_ | refine And.intro g0 ?_ | refine And.intro g1 ?_ | refine And.intro (by kernel_rfl) ?_ | refine And.intro (by decide) ?_
      rfl
  · rw [show f.nstep (0, 0, false) a = (f.qui a, 16, true) by unfold Fm.nstep; rw [if_neg x2, if_pos x4]; rfl]
    rcases cl_three (f := f) b with ⟨y1, y2⟩ | ⟨y1, y2, y3, y4⟩ | ⟨y1, y2, y3, y4⟩
    · rw [show f.nstep (f.qui a, 16, true) b = (f.qui a, 16, true) from if_pos y2]
      repeat (conv => whnf); first | refine ⟨4, ?_⟩ | refine br_tt ?_ | refine br_ff ?_ | refine ⟨_, c1, ?_⟩ | refine ⟨_, c2, ?_⟩ | refine ⟨_, c4, ?_⟩ | refine ⟨_, c5, ?_⟩ | refine br_f x1 ?_ | refine br_t x3 ?_ | refine br_t y1 ?_ | refine And.intro g0 ?_ | refine And.intro g1 ?_ | refine And.intro (by kernel_rfl) ?_ | refine And.intro (by decide) ?_
      rfl
    · rw [show f.nstep (f.qui a, 16, true) b = (f.qui a, 16, true) by unfold Fm.nstep; rw [if_neg y2, if_neg y4]; rfl]
      repeat (conv => whnf); first | refine ⟨4, ?_⟩ | refine br_tt ?_ | refine br_ff ?_ | refine ⟨_, c1, ?_⟩ | refine ⟨_, c2, ?_⟩ | refine ⟨_, c4, ?_⟩ | refine ⟨_, c5, ?_⟩ | refine br_f x1 ?_ | refine br_t x3 ?_ | refine br_f y1 ?_ | refine br_f y3 ?_ | refine And.intro g0 ?_ | refine And.intro g1 ?_ | refine And.intro (by kernel_rfl) ?_ | refine And.intro (by decide) ?_
      rfl
    · rw [show f.nstep (f.qui a, 16, true) b = (f.qui a, 16, true) by unfold Fm.nstep; rw [if_neg y2, if_pos y4]; rfl]
      repeat (conv => whnf); first | refine ⟨4, ?_⟩ | refine br_tt ?_ | refine br_ff ?_ | refine ⟨_, c1, ?_⟩ | refine ⟨_, c2, ?_⟩ | refine ⟨_, c4, ?_⟩ | refine ⟨_, c5, ?_⟩ | refine br_f x1 ?_ | refine br_t x3 ?_ | refine br_f y1 ?_ | refine br_t y3 ?_ | refine And.intro g0 ?_ | refine And.intro g1 ?_ | refine And.intro (by kernel_rfl) ?_ | refine And.intro (by decide) ?_
      rfl
theorem inf_snd {b : Nat} (hb : b < 2 ^ 64) : Snd Try.prog 55 [.g (fmA f), .a (uA b)] (.a (.b (decide (f.cl b = 3)))) := by
  have c1 := fcl_snd h hb
  have z := beqN (f.cl b) 3
  refine snd_of ttOk mixed Try.func55 Try.ntmps55 rfl (by kernel_rfl) rfl ?_
  repeat (conv => whnf); first | refine br_tt ?_ | refine br_ff ?_ | refine ⟨_, c1, ?_⟩ | refine And.intro (by kernel_rfl) ?_ | refine And.intro (by decide) ?_
  exact congrArg (fun b => AV.a (.b b)) z
theorem trn_lt {a : Nat} : f.trn a < 2 ^ (f.p + f.w) := Nat.xor_lt_two_pow (Nat.mod_lt _ (Nat.two_pow_pos _)) (Fm.half_lt h)
theorem turned5_snd {a : Nat} (ha : a < 2 ^ 64) : Snd Try.prog 25 [.g (fmA f), .a (uA a)] (.a (uA (f.trn a))) := by
  have hB := Fm.bounds h
  have c1 := fnought_snd h true
  refine snd_of ttOk mixed Try.func25 Try.ntmps25 rfl (by kernel_rfl) rfl ?_
  repeat (conv => whnf); first | refine br_tt ?_ | refine br_ff ?_ | refine ⟨_, c1, ?_⟩ | refine And.intro (by kernel_rfl) ?_ | refine And.intro (by decide) ?_
  show AV.a (.i .u64 (IntKind.wrap .u64 (((BitVec.ofInt (IntKind.bits .u64) (IntKind.wrap .u64 (((BitVec.ofInt (IntKind.bits .u64) (a : Int) &&& BitVec.ofInt (IntKind.bits .u64) (IntKind.wrap .u64 (IntKind.wrap .u64 (((f.bld true 0 0 : Nat) : Int) * 2 ^ (min (1 : Int).toNat (IntKind.bits .u64))) - 1))).toNat : Nat) : Int)) ^^^ BitVec.ofInt (IntKind.bits .u64) ((f.bld true 0 0 : Nat) : Int)).toNat : Nat) : Int))) = _
  have e1 : IntKind.wrap .u64 (IntKind.wrap .u64 (((f.bld true 0 0 : Nat) : Int) * 2 ^ (min (1 : Int).toNat (IntKind.bits .u64))) - 1) = ((2 ^ (f.p + f.w) - 1 : Nat) : Int) := by
    rcases h with rfl | rfl | rfl <;> decide +kernel
  rw [e1, uN_andMask ha (by omega), uN_xor (Nat.lt_of_le_of_lt (Nat.mod_le _ _) ha) (nought_lt h _), bld_zz h, if_pos rfl]
  rfl
end
end Go.Proofs.Ytlaffgojgfdlnaa.A
