/- The contracts of ieee's Add, Sub, Mul and Fma, for all bits; the program's own questions of layer 5 are answered yes: it is awake. -/
import Derived.Test.YtlaffgojgfdlnaaS30
set_option linter.unusedVariables false
set_option linter.unusedSimpArgs false
set_option linter.constructorNameAsVariable false
set_option linter.unusedSectionVars false
set_option maxRecDepth 100000
set_option maxHeartbeats 8000000
namespace Go.Proofs.Ytlaffgojgfdlnaa.A
open Go.RowKit Go.Proofs.Ytlaffgojgfdlnaa.P Go.Proofs.YtlaffgojgfdlnaaW.PrintWords Go.Proofs.YtlaffgojgfdlnaaW.PrintMore Go.Proofs.Ytlaffgojgfdlnaa.N Sk Dy
/-! ### ieee's sums and products -/
theorem bneN (m n : Nat) : ((m : Int) != (n : Int)) = decide (m ≠ n) := by
  show (!((m : Int) == (n : Int))) = _
  rw [beqN]; by_cases h : m = n <;> simp [h]
theorem few_add (a b : Dy) : Few (Dy.add a b).1.n := by have := add_nlen a b; show nlen _ ≤ 31000; omega
theorem few_mul (a b : Dy) : Few (Dy.mul a b).1.n := by have := mul_nlen a b; show nlen _ ≤ 31000; omega
theorem dmul_snd2 {a b : Dy} (ha : Few a.n) (hb : Few b.n) : Snd Try.prog 19 [.g (dA a), .g (dA b)] (rA (Dy.mul a b)) := by
  have := dmul_snd (na := a.neg) (nb := b.neg) (ea := a.e) (eb := b.e) (few_ok ha).1 (few_ok hb).1 (few_ok ha).2 (few_ok hb).2
  rwa [nv_parts, nv_parts] at this
section
variable {f : Fm} (h : f.ok)
include h
theorem isum_snd (mode : Int) {a b : Nat} (ha : a < 2 ^ 64) (hb : b < 2 ^ 64) : Snd Try.prog 43 [.g (fmA f), .a (iA mode), .a (uA a), .a (uA b)] (tA (f.sumR mode a b)) := by
  have c1 := inf_snd h ha
  have c2 := inf_snd h hb
  have c3 := (fnone_snd h)
  have c4 := fval_snd h ha
  have c5 := fval_snd h hb
  have c6 := dadd_snd2 (few_val h a) (few_val h b)
  have c7 := fcl_snd h ha
  have c8 := fneg_snd h ha
  have c9 := to_snd' h (mode := mode) (few_add (f.val a).1 (f.val b).1) (mode == 2)
  have c10 := to_snd' h (mode := mode) (few_add (f.val a).1 (f.val b).1) (f.sn a)
  have z1 := bneN a b
  have z2 := beqN a b
  have z3 := beqN (f.cl a) 0
  refine snd_of ttOk mixed Try.func43 Try.ntmps43 rfl (by kernel_rfl) rfl ?_
  unfold Fm.sumR
  by_cases h1 : f.cl a = 3
  · rw [decide_eq_true h1] at c1
    by_cases h2 : f.cl b = 3
    · rw [decide_eq_true h2] at c2
      by_cases h3 : a = b
      · rw [if_neg (fun k => k.2.2 h3), if_pos h1]
        rw [show decide (a ≠ b) = false by simp [h3]] at z1
        repeat (conv => whnf); first | refine br_tt ?_ | refine br_ff ?_ | refine ⟨_, c1, ?_⟩ | refine ⟨_, c2, ?_⟩ | refine ⟨_, c3, ?_⟩ | refine br_f z1 ?_ | refine And.intro (by kernel_rfl) ?_ | refine And.intro (by decide) ?_
        rfl
      · rw [if_pos ⟨h1, h2, h3⟩]
        rw [show decide (a ≠ b) = true by simp [h3]] at z1
        repeat (conv => whnf); first | refine br_tt ?_ | refine br_ff ?_ | refine ⟨_, c1, ?_⟩ | refine ⟨_, c2, ?_⟩ | refine ⟨_, c3, ?_⟩ | refine br_t z1 ?_ | refine And.intro (by kernel_rfl) ?_ | refine And.intro (by decide) ?_
        rfl
    · rw [if_neg (fun k => h2 k.2.1), if_pos h1]
      rw [decide_eq_false h2] at c2
      repeat (conv => whnf); first | refine br_tt ?_ | refine br_ff ?_ | refine ⟨_, c1, ?_⟩ | refine ⟨_, c2, ?_⟩ | refine ⟨_, c3, ?_⟩ | refine And.intro (by kernel_rfl) ?_ | refine And.intro (by decide) ?_
      rfl
  rw [if_neg (fun k => h1 k.1), if_neg h1]
  rw [decide_eq_false h1] at c1
  by_cases h2 : f.cl b = 3
  · rw [if_pos h2]
    rw [decide_eq_true h2] at c2
    repeat (conv => whnf); first | refine br_tt ?_ | refine br_ff ?_ | refine ⟨_, c1, ?_⟩ | refine ⟨_, c2, ?_⟩ | refine ⟨_, c3, ?_⟩ | refine And.intro (by kernel_rfl) ?_ | refine And.intro (by decide) ?_
    rfl
  rw [if_neg h2]
  rw [decide_eq_false h2] at c2
  by_cases h4 : f.cl a = 0
  · rw [decide_eq_true h4] at z3
    by_cases h5 : a = b
    · rw [decide_eq_true h5] at z2
      rw [if_pos ⟨h4, h5⟩]
      repeat (conv => whnf); first | refine br_tt ?_ | refine br_ff ?_ | refine ⟨_, c1, ?_⟩ | refine ⟨_, c2, ?_⟩ | refine ⟨_, c4, ?_⟩ | refine ⟨_, c5, ?_⟩ | refine ⟨_, c6, ?_⟩ | refine ⟨_, c7, ?_⟩ | refine ⟨_, c8, ?_⟩ | refine ⟨_, c9, ?_⟩ | refine ⟨_, c10, ?_⟩ | refine br_t z3 ?_ | refine br_t z2 ?_ | refine And.intro (by kernel_rfl) ?_ | refine And.intro (by decide) ?_
      rfl
    · rw [decide_eq_false h5] at z2
      rw [if_neg (fun k => h5 k.2)]
      repeat (conv => whnf); first | refine br_tt ?_ | refine br_ff ?_ | refine ⟨_, c1, ?_⟩ | refine ⟨_, c2, ?_⟩ | refine ⟨_, c4, ?_⟩ | refine ⟨_, c5, ?_⟩ | refine ⟨_, c6, ?_⟩ | refine ⟨_, c7, ?_⟩ | refine ⟨_, c8, ?_⟩ | refine ⟨_, c9, ?_⟩ | refine ⟨_, c10, ?_⟩ | refine br_t z3 ?_ | refine br_f z2 ?_ | refine And.intro (by kernel_rfl) ?_ | refine And.intro (by decide) ?_
      rfl
  · rw [decide_eq_false h4] at z3
    rw [if_neg (fun k => h4 k.1)]
    repeat (conv => whnf); first | refine br_tt ?_ | refine br_ff ?_ | refine ⟨_, c1, ?_⟩ | refine ⟨_, c2, ?_⟩ | refine ⟨_, c4, ?_⟩ | refine ⟨_, c5, ?_⟩ | refine ⟨_, c6, ?_⟩ | refine ⟨_, c7, ?_⟩ | refine ⟨_, c8, ?_⟩ | refine ⟨_, c9, ?_⟩ | refine ⟨_, c10, ?_⟩ | refine br_f z3 ?_ | refine And.intro (by kernel_rfl) ?_ | refine And.intro (by decide) ?_
    rfl
theorem iadd_snd (mode : Int) {a b : Nat} (ha : a < 2 ^ 64) (hb : b < 2 ^ 64) : Snd Try.prog 20 [.g (fmA f), .a (iA mode), .a (uA a), .a (uA b)] (tA (f.addR mode a b)) := by
  have c1 := imay2_snd h mode ha hb
  have c2 := none2_snd h ha hb
  have c3 := isum_snd h mode ha hb
  refine snd_of ttOk mixed Try.func20 Try.ntmps20 rfl (by kernel_rfl) rfl ?_
  unfold Fm.addR
  generalize f.mayE mode [a, b] = e at *
  by_cases h1 : e = 0
  · have z1 : (e != 0) = false := by rw [h1]; rfl
    rw [if_neg (by simp [h1])]
    generalize f.noneR [a, b] = r at *
    obtain ⟨r1, r2, is⟩ := r
    cases is
    · repeat (conv => whnf); first | refine br_tt ?_ | refine br_ff ?_ | refine ⟨_, c1, ?_⟩ | refine ⟨_, c2, ?_⟩ | refine ⟨_, c3, ?_⟩ | refine br_f z1 ?_ | refine And.intro (by kernel_rfl) ?_ | refine And.intro (by decide) ?_
      rfl
    · repeat (conv => whnf); first | refine br_tt ?_ | refine br_ff ?_ | refine ⟨_, c1, ?_⟩ | refine ⟨_, c2, ?_⟩ | refine ⟨_, c3, ?_⟩ | refine br_f z1 ?_ | refine And.intro (by kernel_rfl) ?_ | refine And.intro (by decide) ?_
      rfl
  · have z1 : (e != 0) = true := by rw [bne_iff_ne]; exact h1
    rw [if_pos h1]
    repeat (conv => whnf); first | refine br_tt ?_ | refine br_ff ?_ | refine ⟨_, c1, ?_⟩ | refine br_t z1 ?_ | refine And.intro (by kernel_rfl) ?_ | refine And.intro (by decide) ?_
    rfl
theorem isub_snd (mode : Int) {a b : Nat} (ha : a < 2 ^ 64) (hb : b < 2 ^ 64) : Snd Try.prog 16 [.g (fmA f), .a (iA mode), .a (uA a), .a (uA b)] (tA (f.subR mode a b)) := by
  have c1 := imay2_snd h mode ha hb
  have c2 := none2_snd h ha hb
  have c4 := turned5_snd h hb
  have c3 := isum_snd h mode ha (Fm.lt64 h (trn_lt h (a := b)))
  refine snd_of ttOk mixed Try.func16 Try.ntmps16 rfl (by kernel_rfl) rfl ?_
  unfold Fm.subR
  generalize f.mayE mode [a, b] = e at *
  by_cases h1 : e = 0
  · have z1 : (e != 0) = false := by rw [h1]; rfl
    rw [if_neg (by simp [h1])]
    generalize f.noneR [a, b] = r at *
    obtain ⟨r1, r2, is⟩ := r
    cases is
    · repeat (conv => whnf); first | refine br_tt ?_ | refine br_ff ?_ | refine ⟨_, c1, ?_⟩ | refine ⟨_, c2, ?_⟩ | refine ⟨_, c3, ?_⟩ | refine ⟨_, c4, ?_⟩ | refine br_f z1 ?_ | refine And.intro (by kernel_rfl) ?_ | refine And.intro (by decide) ?_
      rfl
    · repeat (conv => whnf); first | refine br_tt ?_ | refine br_ff ?_ | refine ⟨_, c1, ?_⟩ | refine ⟨_, c2, ?_⟩ | refine ⟨_, c3, ?_⟩ | refine ⟨_, c4, ?_⟩ | refine br_f z1 ?_ | refine And.intro (by kernel_rfl) ?_ | refine And.intro (by decide) ?_
      rfl
  · have z1 : (e != 0) = true := by rw [bne_iff_ne]; exact h1
    rw [if_pos h1]
    repeat (conv => whnf); first | refine br_tt ?_ | refine br_ff ?_ | refine ⟨_, c1, ?_⟩ | refine br_t z1 ?_ | refine And.intro (by kernel_rfl) ?_ | refine And.intro (by decide) ?_
    rfl
theorem ivain_snd {a b : Nat} (ha : a < 2 ^ 64) (hb : b < 2 ^ 64) : Snd Try.prog 54 [.g (fmA f), .a (uA a), .a (uA b)] (.a (.b (f.vain a b))) := by
  have c1 := inf_snd h ha
  have c2 := inf_snd h hb
  have c3 := fcl_snd h ha
  have c4 := fcl_snd h hb
  have z1 := beqN (f.cl a) 0
  have z2 := beqN (f.cl b) 0
  refine snd_of ttOk mixed Try.func54 Try.ntmps54 rfl (by kernel_rfl) rfl ?_
  unfold Fm.vain
  by_cases h1 : f.cl a = 3
  · rw [decide_eq_true h1] at c1
    by_cases h2 : f.cl b = 0
    · rw [decide_eq_true h2] at z2
      rw [decide_eq_true (.inl ⟨h1, h2⟩)]
      repeat (conv => whnf); first | refine br_tt ?_ | refine br_ff ?_ | refine ⟨_, c1, ?_⟩ | refine ⟨_, c2, ?_⟩ | refine ⟨_, c3, ?_⟩ | refine ⟨_, c4, ?_⟩ | refine br_t z2 ?_ | refine And.intro (by kernel_rfl) ?_ | refine And.intro (by decide) ?_
      rfl
    · rw [decide_eq_false h2] at z2
      rw [decide_eq_false (fun k => by omega)]
      by_cases h3 : f.cl b = 3
      · rw [decide_eq_true h3] at c2
        rw [decide_eq_false (by omega)] at z1
        repeat (conv => whnf); first | refine br_tt ?_ | refine br_ff ?_ | refine ⟨_, c1, ?_⟩ | refine ⟨_, c2, ?_⟩ | refine ⟨_, c3, ?_⟩ | refine ⟨_, c4, ?_⟩ | refine br_f z2 ?_ | refine And.intro (by kernel_rfl) ?_ | refine And.intro (by decide) ?_
        exact congrArg (fun b => AV.a (.b b)) z1
      · rw [decide_eq_false h3] at c2
        repeat (conv => whnf); first | refine br_tt ?_ | refine br_ff ?_ | refine ⟨_, c1, ?_⟩ | refine ⟨_, c2, ?_⟩ | refine ⟨_, c3, ?_⟩ | refine ⟨_, c4, ?_⟩ | refine br_f z2 ?_ | refine And.intro (by kernel_rfl) ?_ | refine And.intro (by decide) ?_
        rfl
  · rw [decide_eq_false h1] at c1
    by_cases h3 : f.cl b = 3
    · rw [decide_eq_true h3] at c2
      have e : decide ((f.cl a = 3 ∧ f.cl b = 0) ∨ (f.cl b = 3 ∧ f.cl a = 0)) = decide (f.cl a = 0) := decide_eq_decide.2 (by omega)
      rw [e]
      repeat (conv => whnf); first | refine br_tt ?_ | refine br_ff ?_ | refine ⟨_, c1, ?_⟩ | refine ⟨_, c2, ?_⟩ | refine ⟨_, c3, ?_⟩ | refine ⟨_, c4, ?_⟩ | refine And.intro (by kernel_rfl) ?_ | refine And.intro (by decide) ?_
      exact congrArg (fun b => AV.a (.b b)) z1
    · rw [decide_eq_false h3] at c2
      rw [decide_eq_false (fun k => by omega)]
      repeat (conv => whnf); first | refine br_tt ?_ | refine br_ff ?_ | refine ⟨_, c1, ?_⟩ | refine ⟨_, c2, ?_⟩ | refine ⟨_, c3, ?_⟩ | refine ⟨_, c4, ?_⟩ | refine And.intro (by kernel_rfl) ?_ | refine And.intro (by decide) ?_
      rfl
theorem imul_snd (mode : Int) {a b : Nat} (ha : a < 2 ^ 64) (hb : b < 2 ^ 64) : Snd Try.prog 21 [.g (fmA f), .a (iA mode), .a (uA a), .a (uA b)] (tA (f.mulR mode a b)) := by
  have c1 := imay2_snd h mode ha hb
  have c2 := none2_snd h ha hb
  have c3 := ivain_snd h ha hb
  have c4 := fneg_snd h ha
  have c5 := fneg_snd h hb
  have c6 := inf_snd h ha
  have c7 := inf_snd h hb
  have c8 := finf_snd h (f.sn a != f.sn b)
  have c9 := fnone_snd h
  have d1 := fval_snd h ha
  have d2 := fval_snd h hb
  have d3 := dmul_snd2 (few_val h a) (few_val h b)
  have d4 := to_snd' h (mode := mode) (few_mul (f.val a).1 (f.val b).1) (f.sn a != f.sn b)
  refine snd_of ttOk mixed Try.func21 Try.ntmps21 rfl (by kernel_rfl) rfl ?_
  unfold Fm.mulR
  generalize f.mayE mode [a, b] = e at *
  by_cases h1 : e = 0
  · have z1 : (e != 0) = false := by rw [h1]; rfl
    rw [if_neg (by simp [h1])]
    generalize f.noneR [a, b] = r at *
    obtain ⟨r1, r2, is⟩ := r
    cases is
    · rw [if_neg (show ¬ (false = true) by simp)]
      generalize f.vain a b = v at *
      cases v
      · rw [if_neg (show ¬ (false = true) by simp)]
        by_cases ha3 : f.cl a = 3
        · rw [if_pos (.inl ha3)]
          rw [decide_eq_true ha3] at c6
          repeat (conv => whnf); first | refine br_tt ?_ | refine br_ff ?_ | refine ⟨_, c1, ?_⟩ | refine ⟨_, c2, ?_⟩ | refine ⟨_, c3, ?_⟩ | refine ⟨_, c4, ?_⟩ | refine ⟨_, c5, ?_⟩ | refine ⟨_, c6, ?_⟩ | refine ⟨_, c7, ?_⟩ | refine ⟨_, c8, ?_⟩ | refine ⟨_, c9, ?_⟩ | refine br_f z1 ?_ | refine And.intro (by kernel_rfl) ?_ | refine And.intro (by decide) ?_
          rfl
        rw [decide_eq_false ha3] at c6
        by_cases hb3 : f.cl b = 3
        · rw [if_pos (.inr hb3)]
          rw [decide_eq_true hb3] at c7
          repeat (conv => whnf); first | refine br_tt ?_ | refine br_ff ?_ | refine ⟨_, c1, ?_⟩ | refine ⟨_, c2, ?_⟩ | refine ⟨_, c3, ?_⟩ | refine ⟨_, c4, ?_⟩ | refine ⟨_, c5, ?_⟩ | refine ⟨_, c6, ?_⟩ | refine ⟨_, c7, ?_⟩ | refine ⟨_, c8, ?_⟩ | refine ⟨_, c9, ?_⟩ | refine br_f z1 ?_ | refine And.intro (by kernel_rfl) ?_ | refine And.intro (by decide) ?_
          rfl
        rw [decide_eq_false hb3] at c7
        rw [if_neg (by omega)]
        repeat (conv => whnf); first | refine br_tt ?_ | refine br_ff ?_ | refine ⟨_, c1, ?_⟩ | refine ⟨_, c2, ?_⟩ | refine ⟨_, c3, ?_⟩ | refine ⟨_, c4, ?_⟩ | refine ⟨_, c5, ?_⟩ | refine ⟨_, c6, ?_⟩ | refine ⟨_, c7, ?_⟩ | refine ⟨_, c8, ?_⟩ | refine ⟨_, c9, ?_⟩ | refine ⟨_, d1, ?_⟩ | refine ⟨_, d2, ?_⟩ | refine ⟨_, d3, ?_⟩ | refine ⟨_, d4, ?_⟩ | refine br_f z1 ?_ | refine And.intro (by kernel_rfl) ?_ | refine And.intro (by decide) ?_
        rfl
      · repeat (conv => whnf); first | refine br_tt ?_ | refine br_ff ?_ | refine ⟨_, c1, ?_⟩ | refine ⟨_, c2, ?_⟩ | refine ⟨_, c3, ?_⟩ | refine ⟨_, c4, ?_⟩ | refine ⟨_, c5, ?_⟩ | refine ⟨_, c6, ?_⟩ | refine ⟨_, c7, ?_⟩ | refine ⟨_, c8, ?_⟩ | refine ⟨_, c9, ?_⟩ | refine br_f z1 ?_ | refine And.intro (by kernel_rfl) ?_ | refine And.intro (by decide) ?_
        rfl
    · repeat (conv => whnf); first | refine br_tt ?_ | refine br_ff ?_ | refine ⟨_, c1, ?_⟩ | refine ⟨_, c2, ?_⟩ | refine ⟨_, c3, ?_⟩ | refine ⟨_, c4, ?_⟩ | refine ⟨_, c5, ?_⟩ | refine ⟨_, c6, ?_⟩ | refine ⟨_, c7, ?_⟩ | refine ⟨_, c8, ?_⟩ | refine ⟨_, c9, ?_⟩ | refine br_f z1 ?_ | refine And.intro (by kernel_rfl) ?_ | refine And.intro (by decide) ?_
      rfl
  · have z1 : (e != 0) = true := by rw [bne_iff_ne]; exact h1
    rw [if_pos h1]
    repeat (conv => whnf); first | refine br_tt ?_ | refine br_ff ?_ | refine ⟨_, c1, ?_⟩ | refine br_t z1 ?_ | refine And.intro (by kernel_rfl) ?_ | refine And.intro (by decide) ?_
    rfl
theorem none3_snd {a b c : Nat} (ha : a < 2 ^ 64) (hb : b < 2 ^ 64) (hc : c < 2 ^ 64) : Snd Try.prog 42 [.g (fmA f), .a (.v .u64 [(a : Int), (b : Int), (c : Int)])] (nA3 (f.noneR [a, b, c])) := by
  have c1 := fcl_snd h ha
  have c2 := fcl_snd h hb
  have c3 := fcl_snd h hc
  have c4 := fqui_snd h ha
  have c5 := fqui_snd h hb
  have c6 := fqui_snd h hc
  have st : ∀ r : Nat × Int × Bool, ∀ x : Nat, (f.cl x < 4 → f.nstep r x = r) ∧ (¬ f.cl x < 4 → f.cl x = 5 → f.nstep r x = (if r.2.2 = true then r.1 else f.qui x, 16, true)) ∧ (¬ f.cl x < 4 → ¬ f.cl x = 5 → f.nstep r x = (if r.2.2 = true then r.1 else f.qui x, r.2.1, true)) := fun r x => by
    refine ⟨fun k => if_pos k, fun k1 k2 => ?_, fun k1 k2 => ?_⟩
    · unfold Fm.nstep; rw [if_neg k1, if_pos k2]
    · unfold Fm.nstep; rw [if_neg k1, if_neg k2]
  obtain ⟨g0, g1, g2⟩ := idx3 (a : Int) (b : Int) (c : Int)
  refine snd_of ttOk mixed Try.func42 Try.ntmps42 rfl (by kernel_rfl) rfl ?_
  unfold Fm.noneR
  rw [List.foldl_cons, List.foldl_cons, List.foldl_cons, List.foldl_nil]
  rcases cl_three (f := f) a with ⟨x1, x2⟩ | ⟨x1, x2, x3, x4⟩ | ⟨x1, x2, x3, x4⟩
  · rw [(st _ a).1 x2]
    rcases cl_three (f := f) b with ⟨y1, y2⟩ | ⟨y1, y2, y3, y4⟩ | ⟨y1, y2, y3, y4⟩
    · rw [(st _ b).1 y2]
      rcases cl_three (f := f) c with ⟨w1, w2⟩ | ⟨w1, w2, w3, w4⟩ | ⟨w1, w2, w3, w4⟩
      · rw [(st _ c).1 w2]
        repeat (conv => whnf); first | refine ⟨5, ?_⟩ | refine br_tt ?_ | refine br_ff ?_ | refine ⟨_, c1, ?_⟩ | refine ⟨_, c2, ?_⟩ | refine ⟨_, c3, ?_⟩ | refine ⟨_, c4, ?_⟩ | refine ⟨_, c5, ?_⟩ | refine ⟨_, c6, ?_⟩ | refine br_t x1 ?_ | refine br_t y1 ?_ | refine br_t w1 ?_ | refine And.intro g0 ?_ | refine And.intro g1 ?_ | refine And.intro g2 ?_ | refine And.intro (by kernel_rfl) ?_ | refine And.intro (by decide) ?_
        rfl
      · rw [(st _ c).2.2 w2 w4]
        repeat (conv => whnf); first | refine ⟨5, ?_⟩ | refine br_tt ?_ | refine br_ff ?_ | refine ⟨_, c1, ?_⟩ | refine ⟨_, c2, ?_⟩ | refine ⟨_, c3, ?_⟩ | refine ⟨_, c4, ?_⟩ | refine ⟨_, c5, ?_⟩ | refine ⟨_, c6, ?_⟩ | refine br_t x1 ?_ | refine br_t y1 ?_ | refine br_f w1 ?_ | refine br_f w3 ?_ | refine And.intro g0 ?_ | refine And.intro g1 ?_ | refine And.intro g2 ?_ | refine And.intro (by kernel_rfl) ?_ | refine And.intro (by decide) ?_
        rfl
      · rw [(st _ c).2.1 w2 w4]
        repeat (conv => whnf); first | refine ⟨5, ?_⟩ | refine br_tt ?_ | refine br_ff ?_ | refine ⟨_, c1, ?_⟩ | refine ⟨_, c2, ?_⟩ | refine ⟨_, c3, ?_⟩ | refine ⟨_, c4, ?_⟩ | refine ⟨_, c5, ?_⟩ | refine ⟨_, c6, ?_⟩ | refine br_t x1 ?_ | refine br_t y1 ?_ | refine br_f w1 ?_ | refine br_t w3 ?_ | refine And.intro g0 ?_ | refine And.intro g1 ?_ | refine And.intro g2 ?_ | refine And.intro (by kernel_rfl) ?_ | refine And.intro (by decide) ?_
        rfl
    · rw [(st _ b).2.2 y2 y4]
      rcases cl_three (f := f) c with ⟨w1, w2⟩ | ⟨w1, w2, w3, w4⟩ | ⟨w1, w2, w3, w4⟩
      · rw [(st _ c).1 w2]
        repeat (conv => whnf); first | refine ⟨5, ?_⟩ | refine br_tt ?_ | refine br_ff ?_ | refine ⟨_, c1, ?_⟩ | refine ⟨_, c2, ?_⟩ | refine ⟨_, c3, ?_⟩ | refine ⟨_, c4, ?_⟩ | refine ⟨_, c5, ?_⟩ | refine ⟨_, c6, ?_⟩ | refine br_t x1 ?_ | refine br_f y1 ?_ | refine br_f y3 ?_ | refine br_t w1 ?_ | refine And.intro g0 ?_ | refine And.intro g1 ?_ | refine And.intro g2 ?_ | refine And.intro (by kernel_rfl) ?_ | refine And.intro (by decide) ?_
        rfl
      · rw [(st _ c).2.2 w2 w4]
        repeat (conv => whnf); first | refine ⟨5, ?_⟩ | refine br_tt ?_ | refine br_ff ?_ | refine ⟨_, c1, ?_⟩ | refine ⟨_, c2, ?_⟩ | refine ⟨_, c3, ?_⟩ | refine ⟨_, c4, ?_⟩ | refine ⟨_, c5, ?_⟩ | refine ⟨_, c6, ?_⟩ | refine br_t x1 ?_ | refine br_f y1 ?_ | refine br_f y3 ?_ | refine br_f w1 ?_ | refine br_f w3 ?_ | refine And.intro g0 ?_ | refine And.intro g1 ?_ | refine And.intro g2 ?_ | refine And.intro (by kernel_rfl) ?_ | refine And.intro (by decide) ?_
        rfl
      · rw [(st _ c).2.1 w2 w4]
        repeat (conv => whnf); first | refine ⟨5, ?_⟩ | refine br_tt ?_ | refine br_ff ?_ | refine ⟨_, c1, ?_⟩ | refine ⟨_, c2, ?_⟩ | refine ⟨_, c3, ?_⟩ | refine ⟨_, c4, ?_⟩ | refine ⟨_, c5, ?_⟩ | refine ⟨_, c6, ?_⟩ | refine br_t x1 ?_ | refine br_f y1 ?_ | refine br_f y3 ?_ | refine br_f w1 ?_ | refine br_t w3 ?_ | refine And.intro g0 ?_ | refine And.intro g1 ?_ | refine And.intro g2 ?_ | refine And.intro (by kernel_rfl) ?_ | refine And.intro (by decide) ?_
        rfl
    · rw [(st _ b).2.1 y2 y4]
      rcases cl_three (f := f) c with ⟨w1, w2⟩ | ⟨w1, w2, w3, w4⟩ | ⟨w1, w2, w3, w4⟩
      · rw [(st _ c).1 w2]
        repeat (conv => whnf); first | refine ⟨5, ?_⟩ | refine br_tt ?_ | refine br_ff ?_ | refine ⟨_, c1, ?_⟩ | refine ⟨_, c2, ?_⟩ | refine ⟨_, c3, ?_⟩ | refine ⟨_, c4, ?_⟩ | refine ⟨_, c5, ?_⟩ | refine ⟨_, c6, ?_⟩ | refine br_t x1 ?_ | refine br_f y1 ?_ | refine br_t y3 ?_ | refine br_t w1 ?_ | refine And.intro g0 ?_ | refine And.intro g1 ?_ | refine And.intro g2 ?_ | refine And.intro (by kernel_rfl) ?_ | refine And.intro (by decide) ?_
        rfl
      · rw [(st _ c).2.2 w2 w4]
        repeat (conv => whnf); first | refine ⟨5, ?_⟩ | refine br_tt ?_ | refine br_ff ?_ | refine ⟨_, c1, ?_⟩ | refine ⟨_, c2, ?_⟩ | refine ⟨_, c3, ?_⟩ | refine ⟨_, c4, ?_⟩ | refine ⟨_, c5, ?_⟩ | refine ⟨_, c6, ?_⟩ | refine br_t x1 ?_ | refine br_f y1 ?_ | refine br_t y3 ?_ | refine br_f w1 ?_ | refine br_f w3 ?_ | refine And.intro g0 ?_ | refine And.intro g1 ?_ | refine And.intro g2 ?_ | refine And.intro (by kernel_rfl) ?_ | refine And.intro (by decide) ?_
        rfl
      · rw [(st _ c).2.1 w2 w4]
        repeat (conv => whnf); first | refine ⟨5, ?_⟩ | refine br_tt ?_ | refine br_ff ?_ | refine ⟨_, c1, ?_⟩ | refine ⟨_, c2, ?_⟩ | refine ⟨_, c3, ?_⟩ | refine ⟨_, c4, ?_⟩ | refine ⟨_, c5, ?_⟩ | refine ⟨_, c6, ?_⟩ | refine br_t x1 ?_ | refine br_f y1 ?_ | refine br_t y3 ?_ | refine br_f w1 ?_ | refine br_t w3 ?_ | refine And.intro g0 ?_ | refine And.intro g1 ?_ | refine And.intro g2 ?_ | refine And.intro (by kernel_rfl) ?_ | refine And.intro (by decide) ?_
        rfl
  · rw [(st _ a).2.2 x2 x4]
    rcases cl_three (f := f) b with ⟨y1, y2⟩ | ⟨y1, y2, y3, y4⟩ | ⟨y1, y2, y3, y4⟩
    · rw [(st _ b).1 y2]
      rcases cl_three (f := f) c with ⟨w1, w2⟩ | ⟨w1, w2, w3, w4⟩ | ⟨w1, w2, w3, w4⟩
      · rw [(st _ c).1 w2]
        repeat (conv => whnf); first | refine ⟨5, ?_⟩ | refine br_tt ?_ | refine br_ff ?_ | refine ⟨_, c1, ?_⟩ | refine ⟨_, c2, ?_⟩ | refine ⟨_, c3, ?_⟩ | refine ⟨_, c4, ?_⟩ | refine ⟨_, c5, ?_⟩ | refine ⟨_, c6, ?_⟩ | refine br_f x1 ?_ | refine br_f x3 ?_ | refine br_t y1 ?_ | refine br_t w1 ?_ | refine And.intro g0 ?_ | refine And.intro g1 ?_ | refine And.intro g2 ?_ | refine And.intro (by kernel_rfl) ?_ | refine And.intro (by decide) ?_
        rfl
      · rw [(st _ c).2.2 w2 w4]
        repeat (conv => whnf); first | refine ⟨5, ?_⟩ | refine br_tt ?_ | refine br_ff ?_ | refine ⟨_, c1, ?_⟩ | refine ⟨_, c2, ?_⟩ | refine ⟨_, c3, ?_⟩ | refine ⟨_, c4, ?_⟩ | refine ⟨_, c5, ?_⟩ | refine ⟨_, c6, ?_⟩ | refine br_f x1 ?_ | refine br_f x3 ?_ | refine br_t y1 ?_ | refine br_f w1 ?_ | refine br_f w3 ?_ | refine And.intro g0 ?_ | refine And.intro g1 ?_ | refine And.intro g2 ?_ | refine And.intro (by kernel_rfl) ?_ | refine And.intro (by decide) ?_
        rfl
      · rw [(st _ c).2.1 w2 w4]
        repeat (conv => whnf); first | refine ⟨5, ?_⟩ | refine br_tt ?_ | refine br_ff ?_ | refine ⟨_, c1, ?_⟩ | refine ⟨_, c2, ?_⟩ | refine ⟨_, c3, ?_⟩ | refine ⟨_, c4, ?_⟩ | refine ⟨_, c5, ?_⟩ | refine ⟨_, c6, ?_⟩ | refine br_f x1 ?_ | refine br_f x3 ?_ | refine br_t y1 ?_ | refine br_f w1 ?_ | refine br_t w3 ?_ | refine And.intro g0 ?_ | refine And.intro g1 ?_ | refine And.intro g2 ?_ | refine And.intro (by kernel_rfl) ?_ | refine And.intro (by decide) ?_
        rfl
    · rw [(st _ b).2.2 y2 y4]
      rcases cl_three (f := f) c with ⟨w1, w2⟩ | ⟨w1, w2, w3, w4⟩ | ⟨w1, w2, w3, w4⟩
      · rw [(st _ c).1 w2]
        repeat (conv => whnf); first | refine ⟨5, ?_⟩ | refine br_tt ?_ | refine br_ff ?_ | refine ⟨_, c1, ?_⟩ | refine ⟨_, c2, ?_⟩ | refine ⟨_, c3, ?_⟩ | refine ⟨_, c4, ?_⟩ | refine ⟨_, c5, ?_⟩ | refine ⟨_, c6, ?_⟩ | refine br_f x1 ?_ | refine br_f x3 ?_ | refine br_f y1 ?_ | refine br_f y3 ?_ | refine br_t w1 ?_ | refine And.intro g0 ?_ | refine And.intro g1 ?_ | refine And.intro g2 ?_ | refine And.intro (by kernel_rfl) ?_ | refine And.intro (by decide) ?_
        rfl
      · rw [(st _ c).2.2 w2 w4]
        repeat (conv => whnf); first | refine ⟨5, ?_⟩ | refine br_tt ?_ | refine br_ff ?_ | refine ⟨_, c1, ?_⟩ | refine ⟨_, c2, ?_⟩ | refine ⟨_, c3, ?_⟩ | refine ⟨_, c4, ?_⟩ | refine ⟨_, c5, ?_⟩ | refine ⟨_, c6, ?_⟩ | refine br_f x1 ?_ | refine br_f x3 ?_ | refine br_f y1 ?_ | refine br_f y3 ?_ | refine br_f w1 ?_ | refine br_f w3 ?_ | refine And.intro g0 ?_ | refine And.intro g1 ?_ | refine And.intro g2 ?_ | refine And.intro (by kernel_rfl) ?_ | refine And.intro (by decide) ?_
        rfl
      · rw [(st _ c).2.1 w2 w4]
        repeat (conv => whnf); first | refine ⟨5, ?_⟩ | refine br_tt ?_ | refine br_ff ?_ | refine ⟨_, c1, ?_⟩ | refine ⟨_, c2, ?_⟩ | refine ⟨_, c3, ?_⟩ | refine ⟨_, c4, ?_⟩ | refine ⟨_, c5, ?_⟩ | refine ⟨_, c6, ?_⟩ | refine br_f x1 ?_ | refine br_f x3 ?_ | refine br_f y1 ?_ | refine br_f y3 ?_ | refine br_f w1 ?_ | refine br_t w3 ?_ | refine And.intro g0 ?_ | refine And.intro g1 ?_ | refine And.intro g2 ?_ | refine And.intro (by kernel_rfl) ?_ | refine And.intro (by decide) ?_
        rfl
    · rw [(st _ b).2.1 y2 y4]
      rcases cl_three (f := f) c with ⟨w1, w2⟩ | ⟨w1, w2, w3, w4⟩ | ⟨w1, w2, w3, w4⟩
      · rw [(st _ c).1 w2]
        repeat (conv => whnf); first | refine ⟨5, ?_⟩ | refine br_tt ?_ | refine br_ff ?_ | refine ⟨_, c1, ?_⟩ | refine ⟨_, c2, ?_⟩ | refine ⟨_, c3, ?_⟩ | refine ⟨_, c4, ?_⟩ | refine ⟨_, c5, ?_⟩ | refine ⟨_, c6, ?_⟩ | refine br_f x1 ?_ | refine br_f x3 ?_ | refine br_f y1 ?_ | refine br_t y3 ?_ | refine br_t w1 ?_ | refine And.intro g0 ?_ | refine And.intro g1 ?_ | refine And.intro g2 ?_ | refine And.intro (by kernel_rfl) ?_ | refine And.intro (by decide) ?_
        rfl
      · rw [(st _ c).2.2 w2 w4]
        repeat (conv => whnf); first | refine ⟨5, ?_⟩ | refine br_tt ?_ | refine br_ff ?_ | refine ⟨_, c1, ?_⟩ | refine ⟨_, c2, ?_⟩ | refine ⟨_, c3, ?_⟩ | refine ⟨_, c4, ?_⟩ | refine ⟨_, c5, ?_⟩ | refine ⟨_, c6, ?_⟩ | refine br_f x1 ?_ | refine br_f x3 ?_ | refine br_f y1 ?_ | refine br_t y3 ?_ | refine br_f w1 ?_ | refine br_f w3 ?_ | refine And.intro g0 ?_ | refine And.intro g1 ?_ | refine And.intro g2 ?_ | refine And.intro (by kernel_rfl) ?_ | refine And.intro (by decide) ?_
        rfl
      · rw [(st _ c).2.1 w2 w4]
        repeat (conv => whnf); first | refine ⟨5, ?_⟩ | refine br_tt ?_ | refine br_ff ?_ | refine ⟨_, c1, ?_⟩ | refine ⟨_, c2, ?_⟩ | refine ⟨_, c3, ?_⟩ | refine ⟨_, c4, ?_⟩ | refine ⟨_, c5, ?_⟩ | refine ⟨_, c6, ?_⟩ | refine br_f x1 ?_ | refine br_f x3 ?_ | refine br_f y1 ?_ | refine br_t y3 ?_ | refine br_f w1 ?_ | refine br_t w3 ?_ | refine And.intro g0 ?_ | refine And.intro g1 ?_ | refine And.intro g2 ?_ | refine And.intro (by kernel_rfl) ?_ | refine And.intro (by decide) ?_
        rfl
  · rw [(st _ a).2.1 x2 x4]
    rcases cl_three (f := f) b with ⟨y1, y2⟩ | ⟨y1, y2, y3, y4⟩ | ⟨y1, y2, y3, y4⟩
    · rw [(st _ b).1 y2]
      rcases cl_three (f := f) c with ⟨w1, w2⟩ | ⟨w1, w2, w3, w4⟩ | ⟨w1, w2, w3, w4⟩
      · rw [(st _ c).1 w2]
        repeat (conv => whnf); first | refine ⟨5, ?_⟩ | refine br_tt ?_ | refine br_ff ?_ | refine ⟨_, c1, ?_⟩ | refine ⟨_, c2, ?_⟩ | refine ⟨_, c3, ?_⟩ | refine ⟨_, c4, ?_⟩ | refine ⟨_, c5, ?_⟩ | refine ⟨_, c6, ?_⟩ | refine br_f x1 ?_ | refine br_t x3 ?_ | refine br_t y1 ?_ | refine br_t w1 ?_ | refine And.intro g0 ?_ | refine And.intro g1 ?_ | refine And.intro g2 ?_ | refine And.intro (by kernel_rfl) ?_ | refine And.intro (by decide) ?_
        rfl
      · rw [(st _ c).2.2 w2 w4]
        repeat (conv => whnf); first | refine ⟨5, ?_⟩ | refine br_tt ?_ | refine br_ff ?_ | refine ⟨_, c1, ?_⟩ | refine ⟨_, c2, ?_⟩ | refine ⟨_, c3, ?_⟩ | refine ⟨_, c4, ?_⟩ | refine ⟨_, c5, ?_⟩ | refine ⟨_, c6, ?_⟩ | refine br_f x1 ?_ | refine br_t x3 ?_ | refine br_t y1 ?_ | refine br_f w1 ?_ | refine br_f w3 ?_ | refine And.intro g0 ?_ | refine And.intro g1 ?_ | refine And.intro g2 ?_ | refine And.intro (by kernel_rfl) ?_ | refine And.intro (by decide) ?_
        rfl
      · rw [(st _ c).2.1 w2 w4]
        repeat (conv => whnf); first | refine ⟨5, ?_⟩ | refine br_tt ?_ | refine br_ff ?_ | refine ⟨_, c1, ?_⟩ | refine ⟨_, c2, ?_⟩ | refine ⟨_, c3, ?_⟩ | refine ⟨_, c4, ?_⟩ | refine ⟨_, c5, ?_⟩ | refine ⟨_, c6, ?_⟩ | refine br_f x1 ?_ | refine br_t x3 ?_ | refine br_t y1 ?_ | refine br_f w1 ?_ | refine br_t w3 ?_ | refine And.intro g0 ?_ | refine And.intro g1 ?_ | refine And.intro g2 ?_ | refine And.intro (by kernel_rfl) ?_ | refine And.intro (by decide) ?_
        rfl
    · rw [(st _ b).2.2 y2 y4]
      rcases cl_three (f := f) c with ⟨w1, w2⟩ | ⟨w1, w2, w3, w4⟩ | ⟨w1, w2, w3, w4⟩
      · rw [(st _ c).1 w2]
        repeat (conv => whnf); first | refine ⟨5, ?_⟩ | refine br_tt ?_ | refine br_ff ?_ | refine ⟨_, c1, ?_⟩ | refine ⟨_, c2, ?_⟩ | refine ⟨_, c3, ?_⟩ | refine ⟨_, c4, ?_⟩ | refine ⟨_, c5, ?_⟩ | refine ⟨_, c6, ?_⟩ | refine br_f x1 ?_ | refine br_t x3 ?_ | refine br_f y1 ?_ | refine br_f y3 ?_ | refine br_t w1 ?_ | refine And.intro g0 ?_ | refine And.intro g1 ?_ | refine And.intro g2 ?_ | refine And.intro (by kernel_rfl) ?_ | refine And.intro (by decide) ?_
        rfl
      · rw [(st _ c).2.2 w2 w4]
        repeat (conv => whnf); first | refine ⟨5, ?_⟩ | refine br_tt ?_ | refine br_ff ?_ | refine ⟨_, c1, ?_⟩ | refine ⟨_, c2, ?_⟩ | refine ⟨_, c3, ?_⟩ | refine ⟨_, c4, ?_⟩ | refine ⟨_, c5, ?_⟩ | refine ⟨_, c6, ?_⟩ | refine br_f x1 ?_ | refine br_t x3 ?_ | refine br_f y1 ?_ | refine br_f y3 ?_ | refine br_f w1 ?_ | refine br_f w3 ?_ | refine And.intro g0 ?_ | refine And.intro g1 ?_ | refine And.intro g2 ?_ | refine And.intro (by kernel_rfl) ?_ | refine And.intro (by decide) ?_
        rfl
      · rw [(st _ c).2.1 w2 w4]
        repeat (conv => whnf); first | refine ⟨5, ?_⟩ | refine br_tt ?_ | refine br_ff ?_ | refine ⟨_, c1, ?_⟩ | refine ⟨_, c2, ?_⟩ | refine ⟨_, c3, ?_⟩ | refine ⟨_, c4, ?_⟩ | refine ⟨_, c5, ?_⟩ | refine ⟨_, c6, ?_⟩ | refine br_f x1 ?_ | refine br_t x3 ?_ | refine br_f y1 ?_ | refine br_f y3 ?_ | refine br_f w1 ?_ | refine br_t w3 ?_ | refine And.intro g0 ?_ | refine And.intro g1 ?_ | refine And.intro g2 ?_ | refine And.intro (by kernel_rfl) ?_ | refine And.intro (by decide) ?_
        rfl
    · rw [(st _ b).2.1 y2 y4]
      rcases cl_three (f := f) c with ⟨w1, w2⟩ | ⟨w1, w2, w3, w4⟩ | ⟨w1, w2, w3, w4⟩
      · rw [(st _ c).1 w2]
        repeat (conv => whnf); first | refine ⟨5, ?_⟩ | refine br_tt ?_ | refine br_ff ?_ | refine ⟨_, c1, ?_⟩ | refine ⟨_, c2, ?_⟩ | refine ⟨_, c3, ?_⟩ | refine ⟨_, c4, ?_⟩ | refine ⟨_, c5, ?_⟩ | refine ⟨_, c6, ?_⟩ | refine br_f x1 ?_ | refine br_t x3 ?_ | refine br_f y1 ?_ | refine br_t y3 ?_ | refine br_t w1 ?_ | refine And.intro g0 ?_ | refine And.intro g1 ?_ | refine And.intro g2 ?_ | refine And.intro (by kernel_rfl) ?_ | refine And.intro (by decide) ?_
        rfl
      · rw [(st _ c).2.2 w2 w4]
        repeat (conv => whnf); first | refine ⟨5, ?_⟩ | refine br_tt ?_ | refine br_ff ?_ | refine ⟨_, c1, ?_⟩ | refine ⟨_, c2, ?_⟩ | refine ⟨_, c3, ?_⟩ | refine ⟨_, c4, ?_⟩ | refine ⟨_, c5, ?_⟩ | refine ⟨_, c6, ?_⟩ | refine br_f x1 ?_ | refine br_t x3 ?_ | refine br_f y1 ?_ | refine br_t y3 ?_ | refine br_f w1 ?_ | refine br_f w3 ?_ | refine And.intro g0 ?_ | refine And.intro g1 ?_ | refine And.intro g2 ?_ | refine And.intro (by kernel_rfl) ?_ | refine And.intro (by decide) ?_
        rfl
      · rw [(st _ c).2.1 w2 w4]
        repeat (conv => whnf); first | refine ⟨5, ?_⟩ | refine br_tt ?_ | refine br_ff ?_ | refine ⟨_, c1, ?_⟩ | refine ⟨_, c2, ?_⟩ | refine ⟨_, c3, ?_⟩ | refine ⟨_, c4, ?_⟩ | refine ⟨_, c5, ?_⟩ | refine ⟨_, c6, ?_⟩ | refine br_f x1 ?_ | refine br_t x3 ?_ | refine br_f y1 ?_ | refine br_t y3 ?_ | refine br_f w1 ?_ | refine br_t w3 ?_ | refine And.intro g0 ?_ | refine And.intro g1 ?_ | refine And.intro g2 ?_ | refine And.intro (by kernel_rfl) ?_ | refine And.intro (by decide) ?_
        rfl
theorem ifma_snd (mode : Int) {a b c : Nat} (ha : a < 2 ^ 64) (hb : b < 2 ^ 64) (hc : c < 2 ^ 64) : Snd Try.prog 26 [.g (fmA f), .a (iA mode), .a (uA a), .a (uA b), .a (uA c)] (tA (f.fmaR mode a b c)) := by
  have c1 := imay3_snd h mode ha hb hc
  have c2 := none3_snd h ha hb hc
  have c3 := ivain_snd h ha hb
  have c4 := fneg_snd h ha
  have c5 := fneg_snd h hb
  have c0 := fneg_snd h hc
  have c6 := inf_snd h ha
  have c7 := inf_snd h hb
  have d0 := inf_snd h hc
  have c8 := finf_snd h (f.sn a != f.sn b)
  have c9 := fnone_snd h
  have d1 := fval_snd h ha
  have d2 := fval_snd h hb
  have d3 := fval_snd h hc
  have d4 := dmul_snd2 (few_val h a) (few_val h b)
  have d5 := dadd_snd2 (few_mul (f.val a).1 (f.val b).1) (few_val h c)
  have l1 := len_snd' (few_mul (f.val a).1 (f.val b).1)
  have l2 := len_snd' (few_val h c)
  have y1 := beq_len0 (n := (Dy.mul (f.val a).1 (f.val b).1).1.n)
  have y2 := beq_len0 (n := (f.val c).1.n)
  refine snd_of ttOk mixed Try.func26 Try.ntmps26 rfl (by kernel_rfl) rfl ?_
  unfold Fm.fmaR
  generalize f.mayE mode [a, b, c] = e at *
  by_cases h1 : e = 0
  case neg =>
    have z1 : (e != 0) = true := by rw [bne_iff_ne]; exact h1
    rw [if_pos h1]
    repeat (conv => whnf); first | refine br_tt ?_ | refine br_ff ?_ | refine ⟨_, c1, ?_⟩ | refine br_t z1 ?_ | refine And.intro (by kernel_rfl) ?_ | refine And.intro (by decide) ?_
    rfl
  have z1 : (e != 0) = false := by rw [h1]; rfl
  rw [if_neg (show ¬ (e ≠ 0) by simp [h1])]
  generalize f.noneR [a, b, c] = r at *
  obtain ⟨r1, r2, is⟩ := r
  cases is
  case true =>
    rw [if_pos (show ((r1, r2, true) : Nat × Int × Bool).2.2 = true from rfl)]
    generalize f.vain a b = v at *
    generalize decide (f.cl a = 3) = ia at *
    cases v <;> cases ia
    all_goals
      repeat (conv => whnf); first | refine br_tt ?_ | refine br_ff ?_ | refine ⟨_, c1, ?_⟩ | refine ⟨_, c2, ?_⟩ | refine ⟨_, c3, ?_⟩ | refine ⟨_, c4, ?_⟩ | refine ⟨_, c5, ?_⟩ | refine ⟨_, c6, ?_⟩ | refine ⟨_, c7, ?_⟩ | refine br_f z1 ?_ | refine And.intro (by kernel_rfl) ?_ | refine And.intro (by decide) ?_
      rfl
  rw [if_neg (show ¬ ((r1, r2, false) : Nat × Int × Bool).2.2 = true by simp)]
  by_cases hv : f.vain a b = true
  · rw [if_pos (.inl hv)]
    rw [hv] at c3
    generalize decide (f.cl a = 3) = ia at *
    cases ia
    all_goals
      repeat (conv => whnf); first | refine br_tt ?_ | refine br_ff ?_ | refine ⟨_, c1, ?_⟩ | refine ⟨_, c2, ?_⟩ | refine ⟨_, c3, ?_⟩ | refine ⟨_, c4, ?_⟩ | refine ⟨_, c5, ?_⟩ | refine ⟨_, c6, ?_⟩ | refine ⟨_, c7, ?_⟩ | refine ⟨_, c9, ?_⟩ | refine br_f z1 ?_ | refine And.intro (by kernel_rfl) ?_ | refine And.intro (by decide) ?_
      rfl
  have hv' := hv
  rw [Bool.not_eq_true] at hv'
  rw [hv'] at c3
  by_cases hw : f.cl a = 3 ∨ f.cl b = 3
  · by_cases hc3 : f.cl c = 3
    · rw [decide_eq_true hc3] at d0
      by_cases hs : f.sn c = (f.sn a != f.sn b)
      · rw [if_neg (fun k => k.elim hv (fun k => k.2.2 hs)), if_pos hw]
        have zs : (!(f.sn c == (!(f.sn a == f.sn b)))) = false := by rw [hs]; cases f.sn a <;> cases f.sn b <;> rfl
        by_cases ha3 : f.cl a = 3
        · rw [decide_eq_true ha3] at c6
          repeat (conv => whnf); first | refine br_tt ?_ | refine br_ff ?_ | refine ⟨_, c1, ?_⟩ | refine ⟨_, c2, ?_⟩ | refine ⟨_, c3, ?_⟩ | refine ⟨_, c4, ?_⟩ | refine ⟨_, c5, ?_⟩ | refine ⟨_, c6, ?_⟩ | refine ⟨_, c7, ?_⟩ | refine ⟨_, c0, ?_⟩ | refine ⟨_, d0, ?_⟩ | refine ⟨_, c8, ?_⟩ | refine ⟨_, c9, ?_⟩ | refine br_f z1 ?_ | refine br_f zs ?_ | refine And.intro (by kernel_rfl) ?_ | refine And.intro (by decide) ?_
          rfl
        · rw [decide_eq_false ha3] at c6
          rw [decide_eq_true (hw.resolve_left ha3)] at c7
          repeat (conv => whnf); first | refine br_tt ?_ | refine br_ff ?_ | refine ⟨_, c1, ?_⟩ | refine ⟨_, c2, ?_⟩ | refine ⟨_, c3, ?_⟩ | refine ⟨_, c4, ?_⟩ | refine ⟨_, c5, ?_⟩ | refine ⟨_, c6, ?_⟩ | refine ⟨_, c7, ?_⟩ | refine ⟨_, c0, ?_⟩ | refine ⟨_, d0, ?_⟩ | refine ⟨_, c8, ?_⟩ | refine ⟨_, c9, ?_⟩ | refine br_f z1 ?_ | refine br_f zs ?_ | refine And.intro (by kernel_rfl) ?_ | refine And.intro (by decide) ?_
          rfl
      · rw [if_pos (.inr ⟨hw, hc3, hs⟩)]
        have zs : (!(f.sn c == (!(f.sn a == f.sn b)))) = true := by revert hs; cases f.sn a <;> cases f.sn b <;> cases f.sn c <;> simp
        by_cases ha3 : f.cl a = 3
        · rw [decide_eq_true ha3] at c6
          repeat (conv => whnf); first | refine br_tt ?_ | refine br_ff ?_ | refine ⟨_, c1, ?_⟩ | refine ⟨_, c2, ?_⟩ | refine ⟨_, c3, ?_⟩ | refine ⟨_, c4, ?_⟩ | refine ⟨_, c5, ?_⟩ | refine ⟨_, c6, ?_⟩ | refine ⟨_, c7, ?_⟩ | refine ⟨_, c0, ?_⟩ | refine ⟨_, d0, ?_⟩ | refine ⟨_, c8, ?_⟩ | refine ⟨_, c9, ?_⟩ | refine br_f z1 ?_ | refine br_t zs ?_ | refine And.intro (by kernel_rfl) ?_ | refine And.intro (by decide) ?_
          rfl
        · rw [decide_eq_false ha3] at c6
          rw [decide_eq_true (hw.resolve_left ha3)] at c7
          repeat (conv => whnf); first | refine br_tt ?_ | refine br_ff ?_ | refine ⟨_, c1, ?_⟩ | refine ⟨_, c2, ?_⟩ | refine ⟨_, c3, ?_⟩ | refine ⟨_, c4, ?_⟩ | refine ⟨_, c5, ?_⟩ | refine ⟨_, c6, ?_⟩ | refine ⟨_, c7, ?_⟩ | refine ⟨_, c0, ?_⟩ | refine ⟨_, d0, ?_⟩ | refine ⟨_, c8, ?_⟩ | refine ⟨_, c9, ?_⟩ | refine br_f z1 ?_ | refine br_t zs ?_ | refine And.intro (by kernel_rfl) ?_ | refine And.intro (by decide) ?_
          rfl
    · rw [decide_eq_false hc3] at d0
      rw [if_neg (fun k => k.elim hv (fun k => hc3 k.2.1)), if_pos hw]
      by_cases ha3 : f.cl a = 3
      · rw [decide_eq_true ha3] at c6
        repeat (conv => whnf); first | refine br_tt ?_ | refine br_ff ?_ | refine ⟨_, c1, ?_⟩ | refine ⟨_, c2, ?_⟩ | refine ⟨_, c3, ?_⟩ | refine ⟨_, c4, ?_⟩ | refine ⟨_, c5, ?_⟩ | refine ⟨_, c6, ?_⟩ | refine ⟨_, c7, ?_⟩ | refine ⟨_, c0, ?_⟩ | refine ⟨_, d0, ?_⟩ | refine ⟨_, c8, ?_⟩ | refine ⟨_, c9, ?_⟩ | refine br_f z1 ?_ | refine And.intro (by kernel_rfl) ?_ | refine And.intro (by decide) ?_
        rfl
      · rw [decide_eq_false ha3] at c6
        rw [decide_eq_true (hw.resolve_left ha3)] at c7
        repeat (conv => whnf); first | refine br_tt ?_ | refine br_ff ?_ | refine ⟨_, c1, ?_⟩ | refine ⟨_, c2, ?_⟩ | refine ⟨_, c3, ?_⟩ | refine ⟨_, c4, ?_⟩ | refine ⟨_, c5, ?_⟩ | refine ⟨_, c6, ?_⟩ | refine ⟨_, c7, ?_⟩ | refine ⟨_, c0, ?_⟩ | refine ⟨_, d0, ?_⟩ | refine ⟨_, c8, ?_⟩ | refine ⟨_, c9, ?_⟩ | refine br_f z1 ?_ | refine And.intro (by kernel_rfl) ?_ | refine And.intro (by decide) ?_
        rfl
  rw [if_neg (fun k => k.elim hv (fun k => hw k.1)), if_neg hw]
  rw [decide_eq_false (fun k => hw (.inl k))] at c6
  rw [decide_eq_false (fun k => hw (.inr k))] at c7
  by_cases hc3 : f.cl c = 3
  · rw [if_pos hc3]
    rw [decide_eq_true hc3] at d0
    repeat (conv => whnf); first | refine br_tt ?_ | refine br_ff ?_ | refine ⟨_, c1, ?_⟩ | refine ⟨_, c2, ?_⟩ | refine ⟨_, c3, ?_⟩ | refine ⟨_, c4, ?_⟩ | refine ⟨_, c5, ?_⟩ | refine ⟨_, c6, ?_⟩ | refine ⟨_, c7, ?_⟩ | refine ⟨_, c0, ?_⟩ | refine ⟨_, d0, ?_⟩ | refine ⟨_, c8, ?_⟩ | refine ⟨_, c9, ?_⟩ | refine br_f z1 ?_ | refine And.intro (by kernel_rfl) ?_ | refine And.intro (by decide) ?_
    rfl
  rw [if_neg hc3]
  rw [decide_eq_false hc3] at d0
  have e1 := to_snd' h (mode := mode) (few_add (Dy.mul (f.val a).1 (f.val b).1).1 (f.val c).1) (mode == 2)
  have e2 := to_snd' h (mode := mode) (few_add (Dy.mul (f.val a).1 (f.val b).1).1 (f.val c).1) (!(f.sn a == f.sn b))
  by_cases hp : (Dy.mul (f.val a).1 (f.val b).1).1.n = 0
  case neg =>
    rw [decide_eq_false hp] at y1
    rw [if_neg (fun k => hp k.1)]
    repeat (conv => whnf); first | refine br_tt ?_ | refine br_ff ?_ | refine ⟨_, c1, ?_⟩ | refine ⟨_, c2, ?_⟩ | refine ⟨_, c3, ?_⟩ | refine ⟨_, c4, ?_⟩ | refine ⟨_, c5, ?_⟩ | refine ⟨_, c6, ?_⟩ | refine ⟨_, c7, ?_⟩ | refine ⟨_, c0, ?_⟩ | refine ⟨_, d0, ?_⟩ | refine ⟨_, d1, ?_⟩ | refine ⟨_, d2, ?_⟩ | refine ⟨_, d3, ?_⟩ | refine ⟨_, d4, ?_⟩ | refine ⟨_, d5, ?_⟩ | refine ⟨_, e1, ?_⟩ | refine ⟨_, e2, ?_⟩ | refine ⟨_, l1, ?_⟩ | refine ⟨_, l2, ?_⟩ | refine br_f z1 ?_ | refine br_f y1 ?_ | refine And.intro (by kernel_rfl) ?_ | refine And.intro (by decide) ?_
    rfl
  rw [decide_eq_true hp] at y1
  by_cases hz : (f.val c).1.n = 0
  case neg =>
    rw [decide_eq_false hz] at y2
    rw [if_neg (fun k => hz k.2.1)]
    repeat (conv => whnf); first | refine br_tt ?_ | refine br_ff ?_ | refine ⟨_, c1, ?_⟩ | refine ⟨_, c2, ?_⟩ | refine ⟨_, c3, ?_⟩ | refine ⟨_, c4, ?_⟩ | refine ⟨_, c5, ?_⟩ | refine ⟨_, c6, ?_⟩ | refine ⟨_, c7, ?_⟩ | refine ⟨_, c0, ?_⟩ | refine ⟨_, d0, ?_⟩ | refine ⟨_, d1, ?_⟩ | refine ⟨_, d2, ?_⟩ | refine ⟨_, d3, ?_⟩ | refine ⟨_, d4, ?_⟩ | refine ⟨_, d5, ?_⟩ | refine ⟨_, e1, ?_⟩ | refine ⟨_, e2, ?_⟩ | refine ⟨_, l1, ?_⟩ | refine ⟨_, l2, ?_⟩ | refine br_f z1 ?_ | refine br_t y1 ?_ | refine br_f y2 ?_ | refine And.intro (by kernel_rfl) ?_ | refine And.intro (by decide) ?_
    rfl
  rw [decide_eq_true hz] at y2
  by_cases hs : f.sn c = (f.sn a != f.sn b)
  · have zs : (f.sn c == (!(f.sn a == f.sn b))) = true := by rw [hs]; cases f.sn a <;> cases f.sn b <;> rfl
    rw [if_pos ⟨hp, hz, hs⟩]
    repeat (conv => whnf); first | refine br_tt ?_ | refine br_ff ?_ | refine ⟨_, c1, ?_⟩ | refine ⟨_, c2, ?_⟩ | refine ⟨_, c3, ?_⟩ | refine ⟨_, c4, ?_⟩ | refine ⟨_, c5, ?_⟩ | refine ⟨_, c6, ?_⟩ | refine ⟨_, c7, ?_⟩ | refine ⟨_, c0, ?_⟩ | refine ⟨_, d0, ?_⟩ | refine ⟨_, d1, ?_⟩ | refine ⟨_, d2, ?_⟩ | refine ⟨_, d3, ?_⟩ | refine ⟨_, d4, ?_⟩ | refine ⟨_, d5, ?_⟩ | refine ⟨_, e1, ?_⟩ | refine ⟨_, e2, ?_⟩ | refine ⟨_, l1, ?_⟩ | refine ⟨_, l2, ?_⟩ | refine br_f z1 ?_ | refine br_t y1 ?_ | refine br_t y2 ?_ | refine br_t zs ?_ | refine And.intro (by kernel_rfl) ?_ | refine And.intro (by decide) ?_
    rfl
  · have zs : (f.sn c == (!(f.sn a == f.sn b))) = false := by revert hs; cases f.sn a <;> cases f.sn b <;> cases f.sn c <;> simp
    rw [if_neg (fun k => hs k.2.2)]
    repeat (conv => whnf); first | refine br_tt ?_ | refine br_ff ?_ | refine ⟨_, c1, ?_⟩ | refine ⟨_, c2, ?_⟩ | refine ⟨_, c3, ?_⟩ | refine ⟨_, c4, ?_⟩ | refine ⟨_, c5, ?_⟩ | refine ⟨_, c6, ?_⟩ | refine ⟨_, c7, ?_⟩ | refine ⟨_, c0, ?_⟩ | refine ⟨_, d0, ?_⟩ | refine ⟨_, d1, ?_⟩ | refine ⟨_, d2, ?_⟩ | refine ⟨_, d3, ?_⟩ | refine ⟨_, d4, ?_⟩ | refine ⟨_, d5, ?_⟩ | refine ⟨_, e1, ?_⟩ | refine ⟨_, e2, ?_⟩ | refine ⟨_, l1, ?_⟩ | refine ⟨_, l2, ?_⟩ | refine br_f z1 ?_ | refine br_t y1 ?_ | refine br_t y2 ?_ | refine br_f zs ?_ | refine And.intro (by kernel_rfl) ?_ | refine And.intro (by decide) ?_
    rfl
end
theorem awake5_snd : Snd Try.prog 11 [] (.a (.b true)) := by
  have f1 := fof_snd 16
  have t1 := (iadd_snd ok16 0 (a := 0x3c00) (b := 1) (by decide) (by decide)).to (r' := tA (0x3c00, 1, 0)) (by rw [show f16.addR 0 0x3c00 1 = (0x3c00, 1, 0) by decide +kernel])
  have t2 := (imul_snd ok16 0 (a := 0x7c00) (b := 0x8000) (by decide) (by decide)).to (r' := tA (0x7e00, 16, 0)) (by rw [show f16.mulR 0 0x7c00 0x8000 = (0x7e00, 16, 0) by decide +kernel])
  have t3 := (isub_snd ok16 2 (a := 0x3c00) (b := 0x3c00) (by decide) (by decide)).to (r' := tA (0x8000, 0, 0)) (by rw [show f16.subR 2 0x3c00 0x3c00 = (0x8000, 0, 0) by decide +kernel])
  have t4 := (ifma_snd ok16 0 (a := 0x4000) (b := 0x4200) (c := 0xc600) (by decide) (by decide) (by decide)).to (r' := tA (0, 0, 0)) (by rw [show f16.fmaR 0 0x4000 0x4200 0xc600 = (0, 0, 0) by decide +kernel])
  have t5 := (iadd_snd ok16 0 (a := 0x3c00) (b := 0x7c01) (by decide) (by decide)).to (r' := tA (0x7e01, 16, 0)) (by rw [show f16.addR 0 0x3c00 0x7c01 = (0x7e01, 16, 0) by decide +kernel])
  have t6 := (iadd_snd ok16 5 (a := 0) (b := 0) (by decide) (by decide)).to (r' := tA (0, 0, 1)) (by rw [show f16.addR 5 0 0 = (0, 0, 1) by decide +kernel])
  have t7 := (imul_snd ok16 0 (a := 65536) (b := 0) (by decide) (by decide)).to (r' := tA (0, 0, 3)) (by rw [show f16.mulR 0 65536 0 = (0, 0, 3) by decide +kernel])
  have t8 := (turned5_snd ok16 (a := 0x3c00) (by decide)).to (r' := .a (uA 0xbc00)) (by rw [show f16.trn 0x3c00 = 0xbc00 by decide +kernel])
  refine snd_of ttOk mixed Try.func11 Try.ntmps11 rfl (by kernel_rfl) rfl ?_
  repeat (conv => whnf); first | refine br_tt ?_ | refine br_ff ?_ | refine ⟨_, f1, ?_⟩ | refine ⟨_, t1, ?_⟩ | refine ⟨_, t2, ?_⟩ | refine ⟨_, t3, ?_⟩ | refine ⟨_, t4, ?_⟩ | refine ⟨_, t5, ?_⟩ | refine ⟨_, t6, ?_⟩ | refine ⟨_, t7, ?_⟩ | refine ⟨_, t8, ?_⟩ | refine And.intro (by kernel_rfl) ?_ | refine And.intro (by decide) ?_
  rfl
end Go.Proofs.Ytlaffgojgfdlnaa.A
