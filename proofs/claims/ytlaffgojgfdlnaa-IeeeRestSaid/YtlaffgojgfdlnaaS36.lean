import Derived.Test.YtlaffgojgfdlnaaS35
import Derived.Test.YtlaffgojgfdlnaaN56
set_option linter.unusedVariables false
set_option linter.unusedSimpArgs false
set_option linter.constructorNameAsVariable false
set_option linter.unusedSectionVars false
set_option maxRecDepth 100000
set_option maxHeartbeats 8000000
namespace Go.Proofs.Ytlaffgojgfdlnaa.A
open Go.RowKit Go.Proofs.Ytlaffgojgfdlnaa.P Go.Proofs.YtlaffgojgfdlnaaW.PrintWords Go.Proofs.YtlaffgojgfdlnaaW.PrintMore Go.Proofs.Ytlaffgojgfdlnaa.N Sk Dy
theorem parts_len0 {n : Nat} : (((parts n).length : Int) == 0) = decide (n = 0) := by
  by_cases h : n = 0
  · subst h; rw [parts_zero]; rfl
  · rw [parts_pos h, decide_eq_false h, beq_eq_false_iff_ne, List.length_cons]; omega
theorem ieeeRest_law (bits mode x y : Int) (hbits : (Lit.int .i64 bits).wf = true) (hmode : (Lit.int .i64 mode).wf = true) (hx : (Lit.int .u64 x).wf = true) (hy : (Lit.int .u64 y).wf = true) :
    Snd Try.prog 7 [.a (iA bits), .a (iA mode), .a (.i .u64 x), .a (.i .u64 y)] (.a (.b true)) := by
  obtain ⟨a, rfl, ha⟩ := u64_nat hx
  obtain ⟨b, rfl, hb⟩ := u64_nat hy
  have o1 := fof_snd bits
  refine snd_of ttOk mixed Try.func7 Try.ntmps7 rfl (by kernel_rfl) rfl ?_
  cases hf : fmOf bits with
  | none =>
    rw [hf] at o1
    repeat (conv => whnf); first | refine br_tt ?_ | refine br_ff ?_ | refine ⟨_, awake5_snd, ?_⟩ | refine ⟨_, o1, ?_⟩ | refine And.intro (by kernel_rfl) ?_ | refine And.intro (by decide) ?_
    rfl
  | some f =>
  rw [hf] at o1
  obtain ⟨h, hbt⟩ := fmOf_ok hf
  by_cases m1 : mode < 0
  · have z1 := decide_eq_true m1
    repeat (conv => whnf); first | refine br_tt ?_ | refine br_ff ?_ | refine ⟨_, awake5_snd, ?_⟩ | refine ⟨_, o1, ?_⟩ | refine br_t z1 ?_ | refine And.intro (by kernel_rfl) ?_ | refine And.intro (by decide) ?_
    rfl
  have z1 := decide_eq_false m1
  by_cases m2 : mode ≥ 5
  · have z2 := decide_eq_true m2
    repeat (conv => whnf); first | refine br_tt ?_ | refine br_ff ?_ | refine ⟨_, awake5_snd, ?_⟩ | refine ⟨_, o1, ?_⟩ | refine br_f z1 ?_ | refine br_t z2 ?_ | refine And.intro (by kernel_rfl) ?_ | refine And.intro (by decide) ?_
    rfl
  have z2 := decide_eq_false m2
  have hm : 0 ≤ mode ∧ mode < 5 := by omega
  have o2 := finite2_snd h ha hb
  by_cases hq : (f.val a).2 = 0 ∧ (f.val b).2 = 0
  case neg =>
    rw [if_neg hq] at o2
    repeat (conv => whnf); first | refine br_tt ?_ | refine br_ff ?_ | refine ⟨_, awake5_snd, ?_⟩ | refine ⟨_, o1, ?_⟩ | refine ⟨_, o2, ?_⟩ | refine br_f z1 ?_ | refine br_f z2 ?_ | refine And.intro (by kernel_rfl) ?_ | refine And.intro (by decide) ?_
    rfl
  rw [if_pos hq] at o2
  obtain ⟨q1, q2⟩ := hq
  obtain ⟨la, ca⟩ := val_fin q1
  obtain ⟨lb, cb⟩ := val_fin q2
  obtain ⟨g0, g1⟩ := didx2 (row (f.val a).1) (row (f.val b).1)
  obtain ⟨p, gl, e1, e2, e3⟩ := Fm.rest h hm la lb ca cb
  have k1 := imul_snd h 0 ha hb
  rw [e1] at k1
  have p64 := Fm.lt64 h e2
  have k2 := fval_snd h p64
  rcases e3 with hv | ⟨hv, P, R, r1, r2, r3, r4⟩
  · rw [hv, rA_zero'] at k2
    repeat (conv => whnf); first | refine br_tt ?_ | refine br_ff ?_ | refine ⟨_, awake5_snd, ?_⟩ | refine ⟨_, o1, ?_⟩ | refine ⟨_, o2, ?_⟩ | refine ⟨_, k1, ?_⟩ | refine ⟨_, k2, ?_⟩ | refine br_f z1 ?_ | refine br_f z2 ?_ | refine And.intro g0 ?_ | refine And.intro g1 ?_ | refine And.intro (by kernel_rfl) ?_ | refine And.intro (by decide) ?_
    rfl
  rw [hv] at k2
  have k3 := dmul_snd2 (few_val h a) (few_val h b)
  rw [r1] at k3
  have fP : Few P.n := by have := few_mul (f.val a).1 (f.val b).1; rwa [r1] at this
  have k4 := dsub_snd2 fP (few_val h p)
  rw [r2] at k4
  have fR : Few R.n := by have := few_add P (Dy.turned (f.val p).1); rwa [r2] at this
  have k5 := fput_snd' h fR
  have k6 := turned5_snd h p64
  have k7 := ifma_snd h mode ha hb (Fm.lt64 h (trn_lt h (a := p)))
  have k8 := fnought_snd h (mode == 2)
  have yb := @parts_len0 R.n
  by_cases h0 : R.n = 0
  · obtain ⟨s1, s2⟩ := r3 h0
    rw [decide_eq_true h0] at yb
    rw [s1] at k5
    rw [s2] at k7
    rw [show (mode == 2) = decide (mode = 2) from rfl] at k8
    have y1 : (((f.bld (decide (mode = 2)) 0 0 : Nat) : Int) == ((f.bld (decide (mode = 2)) 0 0 : Nat) : Int)) = true := beq_self_eq_true _
    repeat (conv => whnf); first | refine br_tt ?_ | refine br_ff ?_ | refine ⟨_, awake5_snd, ?_⟩ | refine ⟨_, o1, ?_⟩ | refine ⟨_, o2, ?_⟩ | refine ⟨_, k1, ?_⟩ | refine ⟨_, k2, ?_⟩ | refine ⟨_, k3, ?_⟩ | refine ⟨_, k4, ?_⟩ | refine ⟨_, k5, ?_⟩ | refine ⟨_, k6, ?_⟩ | refine ⟨_, k7, ?_⟩ | refine ⟨_, k8, ?_⟩ | refine br_f z1 ?_ | refine br_f z2 ?_ | refine br_t yb ?_ | refine br_t y1 ?_ | refine And.intro g0 ?_ | refine And.intro g1 ?_ | refine And.intro (by kernel_rfl) ?_ | refine And.intro (by decide) ?_
    rfl
  · rw [decide_eq_false h0] at yb
    generalize hp : f.put R = w at *
    obtain ⟨w, e⟩ := w
    by_cases he : e = 0
    · subst he
      rw [r4 h0 w rfl] at k7
      have y1 : (((w : Nat) : Int) == ((w : Nat) : Int)) = true := beq_self_eq_true _
      repeat (conv => whnf); first | refine br_tt ?_ | refine br_ff ?_ | refine ⟨_, awake5_snd, ?_⟩ | refine ⟨_, o1, ?_⟩ | refine ⟨_, o2, ?_⟩ | refine ⟨_, k1, ?_⟩ | refine ⟨_, k2, ?_⟩ | refine ⟨_, k3, ?_⟩ | refine ⟨_, k4, ?_⟩ | refine ⟨_, k5, ?_⟩ | refine ⟨_, k6, ?_⟩ | refine ⟨_, k7, ?_⟩ | refine ⟨_, k8, ?_⟩ | refine br_f z1 ?_ | refine br_f z2 ?_ | refine br_f yb ?_ | refine br_t y1 ?_ | refine And.intro g0 ?_ | refine And.intro g1 ?_ | refine And.intro (by kernel_rfl) ?_ | refine And.intro (by decide) ?_
      rfl
    · have y2 : (e != 0) = true := by rw [bne_iff_ne]; exact he
      repeat (conv => whnf); first | refine br_tt ?_ | refine br_ff ?_ | refine ⟨_, awake5_snd, ?_⟩ | refine ⟨_, o1, ?_⟩ | refine ⟨_, o2, ?_⟩ | refine ⟨_, k1, ?_⟩ | refine ⟨_, k2, ?_⟩ | refine ⟨_, k3, ?_⟩ | refine ⟨_, k4, ?_⟩ | refine ⟨_, k5, ?_⟩ | refine ⟨_, k6, ?_⟩ | refine ⟨_, k7, ?_⟩ | refine ⟨_, k8, ?_⟩ | refine br_f z1 ?_ | refine br_f z2 ?_ | refine br_t y2 ?_ | refine br_f yb ?_ | refine And.intro g0 ?_ | refine And.intro g1 ?_ | refine And.intro (by kernel_rfl) ?_ | refine And.intro (by decide) ?_
      rfl
end Go.Proofs.Ytlaffgojgfdlnaa.A
