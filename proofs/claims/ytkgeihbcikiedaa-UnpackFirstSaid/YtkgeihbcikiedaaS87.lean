/- The contracts of what UnpackFirst asks of references 5, 8 and 18 and of its own question, for all three words. -/
import Derived.Test.YtkgeihbcikiedaaS86
import Derived.Test.YtkgeihbcikiedaaS71
set_option linter.unusedVariables false
set_option linter.unusedSimpArgs false
set_option linter.constructorNameAsVariable false
set_option linter.unusedSectionVars false
set_option maxRecDepth 100000
set_option maxHeartbeats 8000000
namespace Go.Proofs.Ytkgeihbcikiedaa.A
open Go.RowKit Go.Proofs.Ytkgeihbcikiedaa.P Go.Proofs.YtkgeihbcikiedaaW.PrintWords Go.Proofs.YtkgeihbcikiedaaW.PrintMore Go.Proofs.Ytkgeihbcikiedaa.N Sk Dy
theorem ix3 (x y z : Int) : ((0 : Int) ≤ 0 ∧ (0 : Int) < (([x, y, z].length : Nat) : Int)) ∧ ((0 : Int) ≤ 1 ∧ (1 : Int) < (([x, y, z].length : Nat) : Int)) ∧ ((0 : Int) ≤ 2 ∧ (2 : Int) < (([x, y, z].length : Nat) : Int)) :=
 ⟨⟨by omega, by simp⟩, ⟨by omega, by simp⟩, ⟨by omega, by simp⟩⟩
theorem Qn (bits : Int) (x y z : Nat) (hf : vX bits = none) : Snd Try.prog 7 [.a (iA bits), .a (.v .u64 [(x : Int), (y : Int), (z : Int)])] (.t [.g [iA 0, iA 0, iA 0], .g [iA 0, iA 0, iA 0], .a (.b false)]) := by
 have o1 := De bits; have o2 := Fb bits; rw [hf] at o1 o2; refine jl oI mixed Try.func7 Try.ntmps7 rfl (by kernel_rfl) rfl ?_
 repeat (conv => whnf); first | refine fH ?_ | refine fI ?_ | refine ⟨_, o1, ?_⟩ | refine ⟨_, o2, ?_⟩ | refine And.intro (by kernel_rfl) ?_ | refine And.intro (by decide) ?_
 rfl
theorem Qm {bits : Int} {f : Fm} (hf : vX bits = some f) {x y z : Nat} (hx : x < 2 ^ 64) (hy : y < 2 ^ 64) (hz : z < 2 ^ 64) : Snd Try.prog 7 [.a (iA bits), .a (.v .u64 [(x : Int), (y : Int), (z : Int)])] (.t [.g (fmA f), .g (fmA f), .a (.b (!(decide (2 ^ (f.p + f.w) ≤ x) || decide (2 ^ (f.p + f.w) ≤ y) || decide (2 ^ (f.p + f.w) ≤ z))))]) := by
 have o1 := De bits; have o2 := Fb bits; rw [hf] at o1 o2; obtain ⟨h, hbt⟩ := KD hf; have c1 := kw h hx; have c2 := kw h hy; have c3 := kw h hz; obtain ⟨g0, g1, g2⟩ := ix3 (x : Int) (y : Int) (z : Int); refine jl oI mixed Try.func7 Try.ntmps7 rfl (by kernel_rfl) rfl ?_; generalize decide (2 ^ (f.p + f.w) ≤ x) = xa at *; generalize decide (2 ^ (f.p + f.w) ≤ y) = xb at *; generalize decide (2 ^ (f.p + f.w) ≤ z) = xc at *
 cases xa <;> cases xb <;> cases xc
 all_goals
  rcases h with rfl | rfl | rfl
  all_goals
   repeat (conv => whnf); first | refine ⟨5, ?_⟩ | refine fH ?_ | refine fI ?_ | refine ⟨_, o1, ?_⟩ | refine ⟨_, o2, ?_⟩ | refine ⟨_, c1, ?_⟩ | refine ⟨_, c2, ?_⟩ | refine ⟨_, c3, ?_⟩ | refine And.intro g0 ?_ | refine And.intro g1 ?_ | refine And.intro g2 ?_ | refine And.intro (by kernel_rfl) ?_ | refine And.intro (by decide) ?_
   rfl
theorem Vi (c : Bool) : Snd Try.prog 22 [.a (.b c)] (.a (bA (bN c))) := by
 have e : bts (bN c) = if c = true then [true] else [] := by
  cases c
  ·show bts 0 = []; rw [bts]; simp
  ·show bts 1 = [true]; rw [bts, if_neg (by decide), show 1 / 2 = 0 from rfl, bts]; simp
 show Snd _ _ _ (.a (.w (bts (bN c)))); rw [e]; refine jl oI mixed Try.func22 Try.ntmps22 rfl (by kernel_rfl) rfl ?_; cases c
 all_goals
  repeat (conv => whnf); first | refine fH ?_ | refine fI ?_ | refine And.intro (by kernel_rfl) ?_ | refine And.intro (by decide) ?_
  rfl
theorem NE (a b : Bool) : Snd Try.prog 12 [.a (.w [a, b])] (.a (uA (bv [a, b]))) := by
 refine jl oI mixed Try.func12 Try.ntmps12 rfl (by kernel_rfl) rfl ?_
 cases a <;> cases b
 all_goals
  repeat (conv => whnf); first | refine ⟨3, ?_⟩ | refine fH ?_ | refine fI ?_ | refine And.intro (by kernel_rfl) ?_ | refine And.intro (by decide) ?_
  rfl
section
variable {f : Fm} (h : f.ok)
include h
theorem xw {a b c : Nat} (ha : a < 2 ^ 64) (hb : b < 2 ^ 64) (hc : c < 2 ^ 64) : Snd Try.prog 23 [.g (fmA f), .a (.v .u64 [(a : Int), (b : Int), (c : Int)])] (.t [.a (uA (f.qZ [a, b, c]).1), .a (.b (f.qZ [a, b, c]).2)]) := by
 have c1 := jX h ha; have c2 := jX h hb; have c3 := jX h hc; have d1 := oK h ha; have d2 := oK h hb; have d3 := oK h hc
 have st : ∀ (b : Nat) l, f.qZ (b :: l) = if 4 ≤ f.cl b then (f.qui b, true) else f.qZ l := fun _ _ => rfl
 obtain ⟨g0, g1, g2⟩ := ix3 (a : Int) (b : Int) (c : Int); refine jl oI mixed Try.func23 Try.ntmps23 rfl (by kernel_rfl) rfl ?_; rw [st, st, st, show f.qZ [] = (0, false) from rfl]; have x1 : decide (((f.cl a : Nat) : Int) ≥ 4) = decide (4 ≤ f.cl a) := decide_eq_decide.2 (by omega); have x2 : decide (((f.cl b : Nat) : Int) ≥ 4) = decide (4 ≤ f.cl b) := decide_eq_decide.2 (by omega); have x3 : decide (((f.cl c : Nat) : Int) ≥ 4) = decide (4 ≤ f.cl c) := decide_eq_decide.2 (by omega)
 by_cases k1 : 4 ≤ f.cl a
 ·rw [decide_eq_true k1] at x1; rw [if_pos k1]
  repeat (conv => whnf); first | refine ⟨5, ?_⟩ | refine fH ?_ | refine fI ?_ | refine ⟨_, c1, ?_⟩ | refine ⟨_, c2, ?_⟩ | refine ⟨_, c3, ?_⟩ | refine ⟨_, d1, ?_⟩ | refine ⟨_, d2, ?_⟩ | refine ⟨_, d3, ?_⟩ | refine oJ x1 ?_ | refine And.intro g0 ?_ | refine And.intro g1 ?_ | refine And.intro g2 ?_ | refine And.intro (by kernel_rfl) ?_ | refine And.intro (by decide) ?_
  rfl
 rw [decide_eq_false k1] at x1; rw [if_neg k1]
 by_cases k2 : 4 ≤ f.cl b
 ·rw [decide_eq_true k2] at x2; rw [if_pos k2]
  repeat (conv => whnf); first | refine ⟨5, ?_⟩ | refine fH ?_ | refine fI ?_ | refine ⟨_, c1, ?_⟩ | refine ⟨_, c2, ?_⟩ | refine ⟨_, c3, ?_⟩ | refine ⟨_, d1, ?_⟩ | refine ⟨_, d2, ?_⟩ | refine ⟨_, d3, ?_⟩ | refine iL x1 ?_ | refine oJ x2 ?_ | refine And.intro g0 ?_ | refine And.intro g1 ?_ | refine And.intro g2 ?_ | refine And.intro (by kernel_rfl) ?_ | refine And.intro (by decide) ?_
  rfl
 rw [decide_eq_false k2] at x2; rw [if_neg k2]
 by_cases k3 : 4 ≤ f.cl c
 ·rw [decide_eq_true k3] at x3; rw [if_pos k3]
  repeat (conv => whnf); first | refine ⟨5, ?_⟩ | refine fH ?_ | refine fI ?_ | refine ⟨_, c1, ?_⟩ | refine ⟨_, c2, ?_⟩ | refine ⟨_, c3, ?_⟩ | refine ⟨_, d1, ?_⟩ | refine ⟨_, d2, ?_⟩ | refine ⟨_, d3, ?_⟩ | refine iL x1 ?_ | refine iL x2 ?_ | refine oJ x3 ?_ | refine And.intro g0 ?_ | refine And.intro g1 ?_ | refine And.intro g2 ?_ | refine And.intro (by kernel_rfl) ?_ | refine And.intro (by decide) ?_
  rfl
 rw [decide_eq_false k3] at x3; rw [if_neg k3]
 repeat (conv => whnf); first | refine ⟨5, ?_⟩ | refine fH ?_ | refine fI ?_ | refine ⟨_, c1, ?_⟩ | refine ⟨_, c2, ?_⟩ | refine ⟨_, c3, ?_⟩ | refine ⟨_, d1, ?_⟩ | refine ⟨_, d2, ?_⟩ | refine ⟨_, d3, ?_⟩ | refine iL x1 ?_ | refine iL x2 ?_ | refine iL x3 ?_ | refine And.intro g0 ?_ | refine And.intro g1 ?_ | refine And.intro g2 ?_ | refine And.intro (by kernel_rfl) ?_ | refine And.intro (by decide) ?_
 rfl
theorem Cj {a b c : Nat} (ha : a < 2 ^ 64) (hb : b < 2 ^ 64) (hc : c < 2 ^ 64) : Snd Try.prog 25 [.g (fmA f), .a (.v .u64 [(a : Int), (b : Int), (c : Int)])] (.a (.b (f.qp [a, b, c]))) := by
 have c1 := jX h ha; have c2 := jX h hb; have c3 := jX h hc
 have st : ∀ (b : Nat) l, f.qp (b :: l) = if f.cl b = 5 then true else f.qp l := fun _ _ => rfl
 obtain ⟨g0, g1, g2⟩ := ix3 (a : Int) (b : Int) (c : Int); refine jl oI mixed Try.func25 Try.ntmps25 rfl (by kernel_rfl) rfl ?_; rw [st, st, st, show f.qp [] = false from rfl]; have x1 := Fa (f.cl a) 5; have x2 := Fa (f.cl b) 5; have x3 := Fa (f.cl c) 5
 by_cases k1 : f.cl a = 5
 ·rw [decide_eq_true k1] at x1; rw [if_pos k1]
  repeat (conv => whnf); first | refine ⟨5, ?_⟩ | refine fH ?_ | refine fI ?_ | refine ⟨_, c1, ?_⟩ | refine ⟨_, c2, ?_⟩ | refine ⟨_, c3, ?_⟩ | refine oJ x1 ?_ | refine And.intro g0 ?_ | refine And.intro g1 ?_ | refine And.intro g2 ?_ | refine And.intro (by kernel_rfl) ?_ | refine And.intro (by decide) ?_
  rfl
 rw [decide_eq_false k1] at x1; rw [if_neg k1]
 by_cases k2 : f.cl b = 5
 ·rw [decide_eq_true k2] at x2; rw [if_pos k2]
  repeat (conv => whnf); first | refine ⟨5, ?_⟩ | refine fH ?_ | refine fI ?_ | refine ⟨_, c1, ?_⟩ | refine ⟨_, c2, ?_⟩ | refine ⟨_, c3, ?_⟩ | refine iL x1 ?_ | refine oJ x2 ?_ | refine And.intro g0 ?_ | refine And.intro g1 ?_ | refine And.intro g2 ?_ | refine And.intro (by kernel_rfl) ?_ | refine And.intro (by decide) ?_
  rfl
 rw [decide_eq_false k2] at x2; rw [if_neg k2]
 by_cases k3 : f.cl c = 5
 ·rw [decide_eq_true k3] at x3; rw [if_pos k3]
  repeat (conv => whnf); first | refine ⟨5, ?_⟩ | refine fH ?_ | refine fI ?_ | refine ⟨_, c1, ?_⟩ | refine ⟨_, c2, ?_⟩ | refine ⟨_, c3, ?_⟩ | refine iL x1 ?_ | refine iL x2 ?_ | refine oJ x3 ?_ | refine And.intro g0 ?_ | refine And.intro g1 ?_ | refine And.intro g2 ?_ | refine And.intro (by kernel_rfl) ?_ | refine And.intro (by decide) ?_
  rfl
 rw [decide_eq_false k3] at x3; rw [if_neg k3]
 repeat (conv => whnf); first | refine ⟨5, ?_⟩ | refine fH ?_ | refine fI ?_ | refine ⟨_, c1, ?_⟩ | refine ⟨_, c2, ?_⟩ | refine ⟨_, c3, ?_⟩ | refine iL x1 ?_ | refine iL x2 ?_ | refine iL x3 ?_ | refine And.intro g0 ?_ | refine And.intro g1 ?_ | refine And.intro g2 ?_ | refine And.intro (by kernel_rfl) ?_ | refine And.intro (by decide) ?_
 rfl
end
end Go.Proofs.Ytkgeihbcikiedaa.A
