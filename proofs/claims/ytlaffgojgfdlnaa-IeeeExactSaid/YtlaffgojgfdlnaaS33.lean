/- The law IeeeExact answers true, at every input of its types. -/
import Derived.Test.YtlaffgojgfdlnaaS32
import Derived.Test.YtlaffgojgfdlnaaN53
set_option linter.unusedVariables false
set_option linter.unusedSimpArgs false
set_option linter.constructorNameAsVariable false
set_option linter.unusedSectionVars false
set_option maxRecDepth 100000
set_option maxHeartbeats 8000000
namespace Go.Proofs.Ytlaffgojgfdlnaa.A
open Go.RowKit Go.Proofs.Ytlaffgojgfdlnaa.P Go.Proofs.YtlaffgojgfdlnaaW.PrintWords Go.Proofs.YtlaffgojgfdlnaaW.PrintMore Go.Proofs.Ytlaffgojgfdlnaa.N Sk Dy
theorem odd_flag {fl : Int} (h : fl = 0 ∨ fl = 1 ∨ fl = 3 ∨ fl = 5) : (andI fl 1 == 0) = decide (fl = 0) := by rcases h with rfl | rfl | rfl | rfl <;> decide +kernel
theorem ieeeExact_law (bits mode x y : Int) (hbits : (Lit.int .i64 bits).wf = true) (hmode : (Lit.int .i64 mode).wf = true) (hx : (Lit.int .u64 x).wf = true) (hy : (Lit.int .u64 y).wf = true) :
    Snd Try.prog 4 [.a (iA bits), .a (iA mode), .a (.i .u64 x), .a (.i .u64 y)] (.a (.b true)) := by
  obtain ⟨a, rfl, ha⟩ := u64_nat hx
  obtain ⟨b, rfl, hb⟩ := u64_nat hy
  have o1 := fof_snd bits
  refine snd_of ttOk mixed Try.func4 Try.ntmps4 rfl (by kernel_rfl) rfl ?_
  cases hf : fmOf bits with
  | none =>
    rw [hf] at o1
    repeat (conv => whnf); first | refine br_tt ?_ | refine br_ff ?_ | refine ⟨_, awake5_snd, ?_⟩ | refine ⟨_, o1, ?_⟩ | refine And.intro (by kernel_rfl) ?_ | refine And.intro (by decide) ?_
    rfl
  | some f =>
  rw [hf] at o1
  obtain ⟨h, hbt⟩ := fmOf_ok hf
  by_cases m1 : mode < 0
  · have z1 := decide_eq_true m1
    repeat (conv => whnf); first | refine br_tt ?_ | refine br_ff ?_ | refine ⟨_, awake5_snd, ?_⟩ | refine ⟨_, o1, ?_⟩ | refine br_t z1 ?_ | refine And.intro (by kernel_rfl) ?_ | refine And.intro (by decide) ?_
    rfl
  have z1 := decide_eq_false m1
  by_cases m2 : mode ≥ 5
  · have z2 := decide_eq_true m2
    repeat (conv => whnf); first | refine br_tt ?_ | refine br_ff ?_ | refine ⟨_, awake5_snd, ?_⟩ | refine ⟨_, o1, ?_⟩ | refine br_f z1 ?_ | refine br_t z2 ?_ | refine And.intro (by kernel_rfl) ?_ | refine And.intro (by decide) ?_
    rfl
  have z2 := decide_eq_false m2
  have hm : 0 ≤ mode ∧ mode < 5 := by omega
  have c1 := fval_snd h ha
  have c2 := fval_snd h hb
  rcases Fm.val_cases (f := f) a with ⟨hv, hc⟩ | ⟨hv, _, hc⟩ | ⟨hv, la, hc⟩
  · rw [hv, rA_zero'] at c1
    generalize f.val b = vb at *
    repeat (conv => whnf); first | refine br_tt ?_ | refine br_ff ?_ | refine ⟨_, awake5_snd, ?_⟩ | refine ⟨_, o1, ?_⟩ | refine ⟨_, c1, ?_⟩ | refine ⟨_, c2, ?_⟩ | refine br_f z1 ?_ | refine br_f z2 ?_ | refine And.intro (by kernel_rfl) ?_ | refine And.intro (by decide) ?_
    rfl
  · rw [hv, rA_zero'] at c1
    generalize f.val b = vb at *
    repeat (conv => whnf); first | refine br_tt ?_ | refine br_ff ?_ | refine ⟨_, awake5_snd, ?_⟩ | refine ⟨_, o1, ?_⟩ | refine ⟨_, c1, ?_⟩ | refine ⟨_, c2, ?_⟩ | refine br_f z1 ?_ | refine br_f z2 ?_ | refine And.intro (by kernel_rfl) ?_ | refine And.intro (by decide) ?_
    rfl
  rcases Fm.val_cases (f := f) b with ⟨hw, hd⟩ | ⟨hw, _, hd⟩ | ⟨hw, lb, hd⟩
  · rw [hw, rA_zero'] at c2
    rw [hv] at c1
    repeat (conv => whnf); first | refine br_tt ?_ | refine br_ff ?_ | refine ⟨_, awake5_snd, ?_⟩ | refine ⟨_, o1, ?_⟩ | refine ⟨_, c1, ?_⟩ | refine ⟨_, c2, ?_⟩ | refine br_f z1 ?_ | refine br_f z2 ?_ | refine And.intro (by kernel_rfl) ?_ | refine And.intro (by decide) ?_
    rfl
  · rw [hw, rA_zero'] at c2
    rw [hv] at c1
    repeat (conv => whnf); first | refine br_tt ?_ | refine br_ff ?_ | refine ⟨_, awake5_snd, ?_⟩ | refine ⟨_, o1, ?_⟩ | refine ⟨_, c1, ?_⟩ | refine ⟨_, c2, ?_⟩ | refine br_f z1 ?_ | refine br_f z2 ?_ | refine And.intro (by kernel_rfl) ?_ | refine And.intro (by decide) ?_
    rfl
  obtain ⟨n1, e1⟩ := Fm.add_fin hm la lb hc hd
  obtain ⟨n2, e2⟩ := Fm.mul_fin hm la lb hc hd
  obtain ⟨s, es, ps, rs, _⟩ := Fm.fin_sum h (a := a) (b := b)
  obtain ⟨p, ep, pp, mp, _⟩ := Fm.fin_mul h (a := a) (b := b)
  have rp := Fm.mul_rmay h ep
  have c3 := dadd_snd2 (few_val h a) (few_val h b)
  have c4 := dmul_snd2 (few_val h a) (few_val h b)
  have fs : Few s.n := by have := few_add (f.val a).1 (f.val b).1; rwa [es] at this
  have fp : Few p.n := by have := few_mul (f.val a).1 (f.val b).1; rwa [ep] at this
  rw [es] at c3 e1
  rw [ep] at c4 e2
  dsimp only at e1 e2
  have d1 := iadd_snd h mode ha hb
  have d2 := imul_snd h mode ha hb
  obtain ⟨t, fl, t1, t2, t3, t4, t5⟩ := Fm.exact_step h hm rs n1
  obtain ⟨u, gl, u1, u2, u3, u4, u5⟩ := Fm.exact_step h hm rp n2
  rw [e1, t1] at d1
  rw [e2, u1] at d2
  have d3 := to_snd' h (mode := mode) fs (f.sn t)
  rw [t2] at d3
  have d4 := to_snd' h (mode := mode) fp (f.sn u)
  rw [u2] at d4
  have k1 := fneg_snd h (Fm.lt64 h t3)
  have k2 := fneg_snd h (Fm.lt64 h u3)
  have k3 := fval_snd h (Fm.lt64 h t3)
  have k4 := fval_snd h (Fm.lt64 h u3)
  have j1 := dsame_snd' (few_val h t) fs
  have j2 := dsame_snd' (few_val h u) fp
  have y1 := bneI_self ((t : Nat) : Int)
  have y2 := bneI_self fl
  have y3 := bneI_self ((u : Nat) : Int)
  have y4 := bneI_self gl
  have w1 := odd_flag t4
  have w2 := odd_flag u4
  rw [hv] at c1 c3 c4
  rw [hw] at c2 c3 c4
  rcases t5 with ⟨tv, tf⟩ | ⟨tv, tf⟩
  · rw [tv, rA_zero'] at k3
    rw [decide_eq_false tf] at w1
    have x1 : (!((andI fl 1 == 0) == false)) = false := by rw [w1]; rfl
    rcases u5 with ⟨uv, uf⟩ | ⟨uv, uf⟩
    · rw [uv, rA_zero'] at k4
      rw [decide_eq_false uf] at w2
      have x2 : (!((andI gl 1 == 0) == false)) = false := by rw [w2]; rfl
      repeat (conv => whnf); first | refine ⟨4, ?_⟩ | refine br_tt ?_ | refine br_ff ?_ | refine ⟨_, awake5_snd, ?_⟩ | refine ⟨_, o1, ?_⟩ | refine ⟨_, c1, ?_⟩ | refine ⟨_, c2, ?_⟩ | refine ⟨_, c3, ?_⟩ | refine ⟨_, c4, ?_⟩ | refine ⟨_, d1, ?_⟩ | refine ⟨_, d2, ?_⟩ | refine ⟨_, d3, ?_⟩ | refine ⟨_, d4, ?_⟩ | refine ⟨_, k1, ?_⟩ | refine ⟨_, k2, ?_⟩ | refine ⟨_, k3, ?_⟩ | refine ⟨_, k4, ?_⟩ | refine ⟨_, j1, ?_⟩ | refine ⟨_, j2, ?_⟩ | refine br_f z1 ?_ | refine br_f z2 ?_ | refine br_f y1 ?_ | refine br_f y2 ?_ | refine br_f y3 ?_ | refine br_f y4 ?_ | refine br_f x1 ?_ | refine br_f x2 ?_ | refine And.intro (by kernel_rfl) ?_ | refine And.intro (by decide) ?_
      rfl
    · rw [uv] at k4
      have x2 : (!((andI gl 1 == 0) == Dy.same (f.val u).1 p)) = false := by rw [w2, uf]; cases decide (gl = 0) <;> rfl
      repeat (conv => whnf); first | refine ⟨4, ?_⟩ | refine br_tt ?_ | refine br_ff ?_ | refine ⟨_, awake5_snd, ?_⟩ | refine ⟨_, o1, ?_⟩ | refine ⟨_, c1, ?_⟩ | refine ⟨_, c2, ?_⟩ | refine ⟨_, c3, ?_⟩ | refine ⟨_, c4, ?_⟩ | refine ⟨_, d1, ?_⟩ | refine ⟨_, d2, ?_⟩ | refine ⟨_, d3, ?_⟩ | refine ⟨_, d4, ?_⟩ | refine ⟨_, k1, ?_⟩ | refine ⟨_, k2, ?_⟩ | refine ⟨_, k3, ?_⟩ | refine ⟨_, k4, ?_⟩ | refine ⟨_, j1, ?_⟩ | refine ⟨_, j2, ?_⟩ | refine br_f z1 ?_ | refine br_f z2 ?_ | refine br_f y1 ?_ | refine br_f y2 ?_ | refine br_f y3 ?_ | refine br_f y4 ?_ | refine br_f x1 ?_ | refine br_f x2 ?_ | refine And.intro (by kernel_rfl) ?_ | refine And.intro (by decide) ?_
      rfl
  · rw [tv] at k3
    have x1 : (!((andI fl 1 == 0) == Dy.same (f.val t).1 s)) = false := by rw [w1, tf]; cases decide (fl = 0) <;> rfl
    rcases u5 with ⟨uv, uf⟩ | ⟨uv, uf⟩
    · rw [uv, rA_zero'] at k4
      rw [decide_eq_false uf] at w2
      have x2 : (!((andI gl 1 == 0) == false)) = false := by rw [w2]; rfl
      repeat (conv => whnf); first | refine ⟨4, ?_⟩ | refine br_tt ?_ | refine br_ff ?_ | refine ⟨_, awake5_snd, ?_⟩ | refine ⟨_, o1, ?_⟩ | refine ⟨_, c1, ?_⟩ | refine ⟨_, c2, ?_⟩ | refine ⟨_, c3, ?_⟩ | refine ⟨_, c4, ?_⟩ | refine ⟨_, d1, ?_⟩ | refine ⟨_, d2, ?_⟩ | refine ⟨_, d3, ?_⟩ | refine ⟨_, d4, ?_⟩ | refine ⟨_, k1, ?_⟩ | refine ⟨_, k2, ?_⟩ | refine ⟨_, k3, ?_⟩ | refine ⟨_, k4, ?_⟩ | refine ⟨_, j1, ?_⟩ | refine ⟨_, j2, ?_⟩ | refine br_f z1 ?_ | refine br_f z2 ?_ | refine br_f y1 ?_ | refine br_f y2 ?_ | refine br_f y3 ?_ | refine br_f y4 ?_ | refine br_f x1 ?_ | refine br_f x2 ?_ | refine And.intro (by kernel_rfl) ?_ | refine And.intro (by decide) ?_
      rfl
    · rw [uv] at k4
      have x2 : (!((andI gl 1 == 0) == Dy.same (f.val u).1 p)) = false := by rw [w2, uf]; cases decide (gl = 0) <;> rfl
      repeat (conv => whnf); first | refine ⟨4, ?_⟩ | refine br_tt ?_ | refine br_ff ?_ | refine ⟨_, awake5_snd, ?_⟩ | refine ⟨_, o1, ?_⟩ | refine ⟨_, c1, ?_⟩ | refine ⟨_, c2, ?_⟩ | refine ⟨_, c3, ?_⟩ | refine ⟨_, c4, ?_⟩ | refine ⟨_, d1, ?_⟩ | refine ⟨_, d2, ?_⟩ | refine ⟨_, d3, ?_⟩ | refine ⟨_, d4, ?_⟩ | refine ⟨_, k1, ?_⟩ | refine ⟨_, k2, ?_⟩ | refine ⟨_, k3, ?_⟩ | refine ⟨_, k4, ?_⟩ | refine ⟨_, j1, ?_⟩ | refine ⟨_, j2, ?_⟩ | refine br_f z1 ?_ | refine br_f z2 ?_ | refine br_f y1 ?_ | refine br_f y2 ?_ | refine br_f y3 ?_ | refine br_f y4 ?_ | refine br_f x1 ?_ | refine br_f x2 ?_ | refine And.intro (by kernel_rfl) ?_ | refine And.intro (by decide) ?_
      rfl
end Go.Proofs.Ytlaffgojgfdlnaa.A
