/- The laws IeeeTurned, IeeeOne, IeeeUnit and IeeeAgain answer true, at every input of their types. -/
import Derived.Test.YtlaffgojgfdlnaaS31
import Derived.Test.YtlaffgojgfdlnaaN52
set_option linter.unusedVariables false
set_option linter.unusedSimpArgs false
set_option linter.constructorNameAsVariable false
set_option linter.unusedSectionVars false
set_option maxRecDepth 100000
set_option maxHeartbeats 8000000
namespace Go.Proofs.Ytlaffgojgfdlnaa.A
open Go.RowKit Go.Proofs.Ytlaffgojgfdlnaa.P Go.Proofs.YtlaffgojgfdlnaaW.PrintWords Go.Proofs.YtlaffgojgfdlnaaW.PrintMore Go.Proofs.Ytlaffgojgfdlnaa.N Sk Dy
/-! ### The laws IeeeTurned, IeeeOne, IeeeUnit, IeeeAgain, IeeeExact -/
theorem bneI_self (x : Int) : (x != x) = false := bne_self_eq_false _
theorem ieeeTurned_law (bits mode x y : Int) (hbits : (Lit.int .i64 bits).wf = true) (hmode : (Lit.int .i64 mode).wf = true) (hx : (Lit.int .u64 x).wf = true) (hy : (Lit.int .u64 y).wf = true) :
    Snd Try.prog 5 [.a (iA bits), .a (iA mode), .a (.i .u64 x), .a (.i .u64 y)] (.a (.b true)) := by
  obtain ⟨a, rfl, ha⟩ := u64_nat hx
  obtain ⟨b, rfl, hb⟩ := u64_nat hy
  have o1 := fof_snd bits
  refine snd_of ttOk mixed Try.func5 Try.ntmps5 rfl (by kernel_rfl) rfl ?_
  cases hf : fmOf bits with
  | none =>
    rw [hf] at o1
    repeat (conv => whnf); first | refine br_tt ?_ | refine br_ff ?_ | refine ⟨_, awake5_snd, ?_⟩ | refine ⟨_, o1, ?_⟩ | refine And.intro (by kernel_rfl) ?_ | refine And.intro (by decide) ?_
    rfl
  | some f =>
  rw [hf] at o1
  obtain ⟨h, hbt⟩ := fmOf_ok hf
  have c1 := number_snd h ha
  have c2 := number_snd h hb
  by_cases na : a < 2 ^ (f.p + f.w) ∧ f.cl a < 4
  case neg =>
    rw [show (decide (a < 2 ^ (f.p + f.w)) && decide (f.cl a < 4)) = false by rw [Bool.and_eq_false_iff, decide_eq_false_iff_not, decide_eq_false_iff_not]; omega] at c1
    repeat (conv => whnf); first | refine br_tt ?_ | refine br_ff ?_ | refine ⟨_, awake5_snd, ?_⟩ | refine ⟨_, o1, ?_⟩ | refine ⟨_, c1, ?_⟩ | refine And.intro (by kernel_rfl) ?_ | refine And.intro (by decide) ?_
    rfl
  rw [decide_eq_true na.1, decide_eq_true na.2] at c1
  by_cases nb : b < 2 ^ (f.p + f.w) ∧ f.cl b < 4
  case neg =>
    rw [show (decide (b < 2 ^ (f.p + f.w)) && decide (f.cl b < 4)) = false by rw [Bool.and_eq_false_iff, decide_eq_false_iff_not, decide_eq_false_iff_not]; omega] at c2
    repeat (conv => whnf); first | refine br_tt ?_ | refine br_ff ?_ | refine ⟨_, awake5_snd, ?_⟩ | refine ⟨_, o1, ?_⟩ | refine ⟨_, c1, ?_⟩ | refine ⟨_, c2, ?_⟩ | refine And.intro (by kernel_rfl) ?_ | refine And.intro (by decide) ?_
    rfl
  rw [decide_eq_true nb.1, decide_eq_true nb.2] at c2
  have d1 := iadd_snd h mode ha hb
  have d2 := iadd_snd h mode hb ha
  rw [Fm.add_turn mode nb.2 na.2] at d2
  have d3 := imul_snd h mode ha hb
  have d4 := imul_snd h mode hb ha
  rw [Fm.mul_turn mode nb.2 na.2] at d4
  have d5 := isub_snd h mode ha hb
  rw [Fm.sub_turned h mode nb.1 na.2 nb.2] at d5
  have d6 := turned5_snd h hb
  have d7 := iadd_snd h mode ha (Fm.lt64 h (trn_lt h (a := b)))
  generalize f.addR mode a b = r1 at *
  generalize f.mulR mode a b = r2 at *
  generalize f.addR mode a (f.trn b) = r3 at *
  have y1 := bneI_self ((r1.1 : Nat) : Int)
  have y2 := bneI_self r1.2.1
  have y3 := bneI_self r1.2.2
  have y4 := bneI_self ((r2.1 : Nat) : Int)
  have y5 := bneI_self r2.2.1
  have y6 := bneI_self r2.2.2
  repeat (conv => whnf); first | refine br_tt ?_ | refine br_ff ?_ | refine ⟨_, awake5_snd, ?_⟩ | refine ⟨_, o1, ?_⟩ | refine ⟨_, c1, ?_⟩ | refine ⟨_, c2, ?_⟩ | refine ⟨_, d1, ?_⟩ | refine ⟨_, d2, ?_⟩ | refine ⟨_, d3, ?_⟩ | refine ⟨_, d4, ?_⟩ | refine ⟨_, d5, ?_⟩ | refine ⟨_, d6, ?_⟩ | refine ⟨_, d7, ?_⟩ | refine br_f y1 ?_ | refine br_f y2 ?_ | refine br_f y3 ?_ | refine br_f y4 ?_ | refine br_f y5 ?_ | refine br_f y6 ?_ | refine br_t (beq_self_eq_true _) ?_ | refine And.intro (by kernel_rfl) ?_ | refine And.intro (by decide) ?_
  show AV.a (.b (r3.2.2 == r3.2.2)) = _
  rw [beq_self_eq_true]
theorem one_snd {f : Fm} (h : f.ok) : Snd Try.prog 30 [.g (fmA f), .g (dL false [1] 0)] (.t [.a (uA f.one), .a (iA 0)]) := by
  have o1 : Ok [1] := ok_lit (by decide)
  have := fput_snd h (neg := false) (e := 0) o1 (by decide)
  rw [show (⟨false, nv [1], 0⟩ : Dy) = ⟨false, 1, 0⟩ by decide +kernel, (Fm.one_facts h).2.2.2.2] at this
  exact this
theorem dyone_snd : Snd Try.prog 32 [.a (iA 1)] (.g (dL false [1] 0)) := of_lit 1 false 1 [1] 0 (by decide) (by decide) (by decide +kernel) (by decide +kernel)
theorem ieeeOne_law (bits mode x y : Int) (hbits : (Lit.int .i64 bits).wf = true) (hmode : (Lit.int .i64 mode).wf = true) (hx : (Lit.int .u64 x).wf = true) (hy : (Lit.int .u64 y).wf = true) :
    Snd Try.prog 8 [.a (iA bits), .a (iA mode), .a (.i .u64 x), .a (.i .u64 y)] (.a (.b true)) := by
  obtain ⟨a, rfl, ha⟩ := u64_nat hx
  obtain ⟨b, rfl, hb⟩ := u64_nat hy
  have o1 := fof_snd bits
  refine snd_of ttOk mixed Try.func8 Try.ntmps8 rfl (by kernel_rfl) rfl ?_
  cases hf : fmOf bits with
  | none =>
    rw [hf] at o1
    repeat (conv => whnf); first | refine br_tt ?_ | refine br_ff ?_ | refine ⟨_, awake5_snd, ?_⟩ | refine ⟨_, o1, ?_⟩ | refine And.intro (by kernel_rfl) ?_ | refine And.intro (by decide) ?_
    rfl
  | some f =>
  rw [hf] at o1
  obtain ⟨h, hbt⟩ := fmOf_ok hf
  have hone := Fm.lt64 h (Fm.one_facts h).1
  have hz := (Fm.zero_bits h (f.sn a != f.sn b)).1
  have c1 := one_snd h
  have d1 := iadd_snd h mode ha hb
  have d2 := ifma_snd h mode ha hone hb
  rw [← Fm.fma_one h] at d2
  have d3 := imul_snd h mode ha hb
  have d4 := ifma_snd h mode ha hb (Fm.lt64 h hz)
  rw [← Fm.fma_zero h] at d4
  have c2 := fneg_snd h ha
  have c3 := fneg_snd h hb
  have c4 := fnought_snd h (f.sn a != f.sn b)
  generalize f.addR mode a b = r1 at *
  generalize f.mulR mode a b = r2 at *
  have y1 := bneI_self ((r1.1 : Nat) : Int)
  have y2 := bneI_self r1.2.1
  have y3 := bneI_self r1.2.2
  repeat (conv => whnf); first | refine br_tt ?_ | refine br_ff ?_ | refine ⟨_, awake5_snd, ?_⟩ | refine ⟨_, o1, ?_⟩ | refine ⟨_, dyone_snd, ?_⟩ | refine ⟨_, c1, ?_⟩ | refine ⟨_, c2, ?_⟩ | refine ⟨_, c3, ?_⟩ | refine ⟨_, c4, ?_⟩ | refine ⟨_, d1, ?_⟩ | refine ⟨_, d2, ?_⟩ | refine ⟨_, d3, ?_⟩ | refine ⟨_, d4, ?_⟩ | refine br_f y1 ?_ | refine br_f y2 ?_ | refine br_f y3 ?_ | refine br_t (beq_self_eq_true _) ?_ | refine And.intro (by kernel_rfl) ?_ | refine And.intro (by decide) ?_
  show AV.a (.b (r2.2.2 == r2.2.2)) = _
  rw [beq_self_eq_true]
theorem ieeeUnit_law (bits mode x : Int) (hbits : (Lit.int .i64 bits).wf = true) (hmode : (Lit.int .i64 mode).wf = true) (hx : (Lit.int .u64 x).wf = true) :
    Snd Try.prog 9 [.a (iA bits), .a (iA mode), .a (.i .u64 x)] (.a (.b true)) := by
  obtain ⟨a, rfl, ha⟩ := u64_nat hx
  have o1 := fof_snd bits
  refine snd_of ttOk mixed Try.func9 Try.ntmps9 rfl (by kernel_rfl) rfl ?_
  cases hf : fmOf bits with
  | none =>
    rw [hf] at o1
    repeat (conv => whnf); first | refine br_tt ?_ | refine br_ff ?_ | refine ⟨_, awake5_snd, ?_⟩ | refine ⟨_, o1, ?_⟩ | refine And.intro (by kernel_rfl) ?_ | refine And.intro (by decide) ?_
    rfl
  | some f =>
  rw [hf] at o1
  obtain ⟨h, hbt⟩ := fmOf_ok hf
  have c1 := number_snd h ha
  by_cases na : a < 2 ^ (f.p + f.w) ∧ f.cl a < 4
  case neg =>
    rw [show (decide (a < 2 ^ (f.p + f.w)) && decide (f.cl a < 4)) = false by rw [Bool.and_eq_false_iff, decide_eq_false_iff_not, decide_eq_false_iff_not]; omega] at c1
    repeat (conv => whnf); first | refine br_tt ?_ | refine br_ff ?_ | refine ⟨_, awake5_snd, ?_⟩ | refine ⟨_, o1, ?_⟩ | refine ⟨_, c1, ?_⟩ | refine And.intro (by kernel_rfl) ?_ | refine And.intro (by decide) ?_
    rfl
  rw [decide_eq_true na.1, decide_eq_true na.2] at c1
  by_cases m1 : mode < 0
  · have z1 := decide_eq_true m1
    repeat (conv => whnf); first | refine br_tt ?_ | refine br_ff ?_ | refine ⟨_, awake5_snd, ?_⟩ | refine ⟨_, o1, ?_⟩ | refine ⟨_, c1, ?_⟩ | refine br_t z1 ?_ | refine And.intro (by kernel_rfl) ?_ | refine And.intro (by decide) ?_
    rfl
  have z1 := decide_eq_false m1
  by_cases m2 : mode ≥ 5
  · have z2 := decide_eq_true m2
    repeat (conv => whnf); first | refine br_tt ?_ | refine br_ff ?_ | refine ⟨_, awake5_snd, ?_⟩ | refine ⟨_, o1, ?_⟩ | refine ⟨_, c1, ?_⟩ | refine br_f z1 ?_ | refine br_t z2 ?_ | refine And.intro (by kernel_rfl) ?_ | refine And.intro (by decide) ?_
    rfl
  have z2 := decide_eq_false m2
  have hm : 0 ≤ mode ∧ mode < 5 := by omega
  have hone := Fm.lt64 h (Fm.one_facts h).1
  have c2 := one_snd h
  have d1 := imul_snd h mode ha hone
  rw [Fm.unit_mul h hm na.1 na.2] at d1
  have d2 := iadd_snd h mode ha (nought_lt h (f.sn a))
  rw [Fm.unit_add h hm na.1 na.2] at d2
  have d3 := isub_snd h mode ha ha
  have us := Fm.unit_sub h hm na.1 na.2
  have c3 := fneg_snd h ha
  have c4 := fnought_snd h (f.sn a)
  have c5 := fcl_snd h ha
  have c6 := fnone_snd h
  have c7 := fnought_snd h (mode == 2)
  have y1 := bneI_self ((a : Nat) : Int)
  have z3 := beqN (f.cl a) 3
  by_cases h3 : f.cl a = 3
  · rw [us.1 h3] at d3
    rw [decide_eq_true h3] at z3
    repeat (conv => whnf); first | refine br_tt ?_ | refine br_ff ?_ | refine ⟨_, awake5_snd, ?_⟩ | refine ⟨_, o1, ?_⟩ | refine ⟨_, c1, ?_⟩ | refine ⟨_, dyone_snd, ?_⟩ | refine ⟨_, c2, ?_⟩ | refine ⟨_, c3, ?_⟩ | refine ⟨_, c4, ?_⟩ | refine ⟨_, c5, ?_⟩ | refine ⟨_, c6, ?_⟩ | refine ⟨_, c7, ?_⟩ | refine ⟨_, d1, ?_⟩ | refine ⟨_, d2, ?_⟩ | refine ⟨_, d3, ?_⟩ | refine br_f z1 ?_ | refine br_f z2 ?_ | refine br_f y1 ?_ | refine br_t z3 ?_ | refine br_t (beq_self_eq_true _) ?_ | refine And.intro (by kernel_rfl) ?_ | refine And.intro (by decide) ?_
    rfl
  · rw [us.2 h3] at d3
    rw [decide_eq_false h3] at z3
    have y2 : (((f.bld (decide (mode = 2)) 0 0 : Nat) : Int) == ((f.bld (mode == 2) 0 0 : Nat) : Int)) = true := beq_self_eq_true _
    repeat (conv => whnf); first | refine br_tt ?_ | refine br_ff ?_ | refine ⟨_, awake5_snd, ?_⟩ | refine ⟨_, o1, ?_⟩ | refine ⟨_, c1, ?_⟩ | refine ⟨_, dyone_snd, ?_⟩ | refine ⟨_, c2, ?_⟩ | refine ⟨_, c3, ?_⟩ | refine ⟨_, c4, ?_⟩ | refine ⟨_, c5, ?_⟩ | refine ⟨_, c6, ?_⟩ | refine ⟨_, c7, ?_⟩ | refine ⟨_, d1, ?_⟩ | refine ⟨_, d2, ?_⟩ | refine ⟨_, d3, ?_⟩ | refine br_f z1 ?_ | refine br_f z2 ?_ | refine br_f y1 ?_ | refine br_f z3 ?_ | refine br_t y2 ?_ | refine And.intro (by kernel_rfl) ?_ | refine And.intro (by decide) ?_
    rfl
theorem ieeeAgain_law (bits mode x y z : Int) (hbits : (Lit.int .i64 bits).wf = true) (hmode : (Lit.int .i64 mode).wf = true) (hx : (Lit.int .u64 x).wf = true) (hy : (Lit.int .u64 y).wf = true) (hz : (Lit.int .u64 z).wf = true) :
    Snd Try.prog 6 [.a (iA bits), .a (iA mode), .a (.i .u64 x), .a (.i .u64 y), .a (.i .u64 z)] (.a (.b true)) := by
  obtain ⟨a, rfl, ha⟩ := u64_nat hx
  obtain ⟨b, rfl, hb⟩ := u64_nat hy
  obtain ⟨c, rfl, hc⟩ := u64_nat hz
  have o1 := fof_snd bits
  refine snd_of ttOk mixed Try.func6 Try.ntmps6 rfl (by kernel_rfl) rfl ?_
  cases hf : fmOf bits with
  | none =>
    rw [hf] at o1
    repeat (conv => whnf); first | refine br_tt ?_ | refine br_ff ?_ | refine ⟨_, awake5_snd, ?_⟩ | refine ⟨_, o1, ?_⟩ | refine And.intro (by kernel_rfl) ?_ | refine And.intro (by decide) ?_
    rfl
  | some f =>
  rw [hf] at o1
  obtain ⟨h, hbt⟩ := fmOf_ok hf
  have d1 := ifma_snd h mode ha hb hc
  rcases Fm.again h mode a b c with ⟨e1, hm⟩ | ⟨e1, hm⟩ | ⟨t, fl, e1, ht, ⟨la, lb, lc⟩, hh⟩
  · rw [e1] at d1
    by_cases m1 : mode < 0
    · have z1 := decide_eq_true m1
      repeat (conv => whnf); first | refine br_tt ?_ | refine br_ff ?_ | refine ⟨_, awake5_snd, ?_⟩ | refine ⟨_, o1, ?_⟩ | refine ⟨_, d1, ?_⟩ | refine br_t z1 ?_ | refine And.intro (by kernel_rfl) ?_ | refine And.intro (by decide) ?_
      rfl
    · have z1 := decide_eq_false m1
      have z2 : decide (mode ≥ 5) = true := decide_eq_true (by omega)
      have z3 : (true == decide (mode ≥ 5)) = true := by rw [z2]; rfl
      repeat (conv => whnf); first | refine br_tt ?_ | refine br_ff ?_ | refine ⟨_, awake5_snd, ?_⟩ | refine ⟨_, o1, ?_⟩ | refine ⟨_, d1, ?_⟩ | refine br_f z1 ?_ | refine br_t z2 ?_ | refine And.intro (by kernel_rfl) ?_ | refine And.intro (by decide) ?_
      first
        | rfl
        | exact congrArg (fun b => AV.a (.b b)) z3
  · rw [e1] at d1
    have z1 : decide (mode < 0) = false := decide_eq_false (by omega)
    have z2 : decide (mode ≥ 5) = false := decide_eq_false (by omega)
    have z3 : (false == decide (mode ≥ 5)) = true := by rw [z2]; rfl
    repeat (conv => whnf); first | refine br_tt ?_ | refine br_ff ?_ | refine ⟨_, awake5_snd, ?_⟩ | refine ⟨_, o1, ?_⟩ | refine ⟨_, d1, ?_⟩ | refine br_f z1 ?_ | refine br_f z2 ?_ | refine And.intro (by kernel_rfl) ?_ | refine And.intro (by decide) ?_
    first
      | rfl
      | exact congrArg (fun b => AV.a (.b b)) z3
  rw [e1] at d1
  have ht64 := Fm.lt64 h ht
  have c1 := fmay_snd h ht64
  rw [decide_eq_true ht] at c1
  have c2 := fcl_snd h ht64
  have n1 := number_snd h ha
  have n2 := number_snd h hb
  have n3 := number_snd h hc
  rw [decide_eq_true la, Bool.true_and] at n1
  rw [decide_eq_true lb, Bool.true_and] at n2
  rw [decide_eq_true lc, Bool.true_and] at n3
  have z5 := beqN (f.cl t) 5
  have z4 := beqN (f.cl t) 4
  have hfl : fl = 0 ∨ fl = 1 ∨ fl = 3 ∨ fl = 5 ∨ fl = 16 := by rcases hh with ⟨_, ⟨_, k⟩ | ⟨_, k⟩⟩ | ⟨_, _, k⟩ <;> omega
  have w1 : decide (fl < 0) = false := decide_eq_false (by omega)
  have w2 : decide (fl ≥ 32) = false := decide_eq_false (by omega)
  have w3 : (andI fl 8 != 0) = false := by rcases hfl with rfl | rfl | rfl | rfl | rfl <;> decide +kernel
  rcases hh with ⟨⟨k1, k2, k3⟩, hh⟩ | ⟨kn, k4, kf⟩
  · rw [decide_eq_true k1] at n1
    rw [decide_eq_true k2] at n2
    rw [decide_eq_true k3] at n3
    have w4 : (((f.cl t : Nat) : Int) == 5) = false := by rw [beq_eq_false_iff_ne]; rcases hh with ⟨k, _⟩ | ⟨k, _⟩ <;> omega
    have w5 : ((((f.cl t : Nat) : Int) == 4) == (fl == 16)) = true := by
      rcases hh with ⟨k, e⟩ | ⟨k, e⟩
      · rw [k, e]; rfl
      · rw [show (((f.cl t : Nat) : Int) == 4) = false by rw [beq_eq_false_iff_ne]; omega, show (fl == 16) = false by rw [beq_eq_false_iff_ne]; omega]; rfl
    repeat (conv => whnf); first | refine br_tt ?_ | refine br_ff ?_ | refine ⟨_, awake5_snd, ?_⟩ | refine ⟨_, o1, ?_⟩ | refine ⟨_, d1, ?_⟩ | refine ⟨_, c1, ?_⟩ | refine ⟨_, c2, ?_⟩ | refine ⟨_, n1, ?_⟩ | refine ⟨_, n2, ?_⟩ | refine ⟨_, n3, ?_⟩ | refine br_f w1 ?_ | refine br_f w2 ?_ | refine br_f w3 ?_ | refine br_f w4 ?_ | refine br_t w5 ?_ | refine And.intro (by kernel_rfl) ?_ | refine And.intro (by decide) ?_
    first
      | rfl
      | exact congrArg (fun b => AV.a (.b b)) w5
  · have w4 : (((f.cl t : Nat) : Int) == 5) = false := by rw [beq_eq_false_iff_ne]; omega
    have w5 : (((f.cl t : Nat) : Int) == 4) = true := by rw [beq_iff_eq]; omega
    have w6 : (IntKind.wrap .i64 (((BitVec.ofInt (IntKind.bits .i64) fl &&& ~~~ (BitVec.ofInt (IntKind.bits .i64) 16)).toNat : Nat) : Int) == 0) = true := by rcases kf with rfl | rfl <;> decide +kernel
    by_cases k1 : f.cl a < 4
    · rw [decide_eq_true k1] at n1
      by_cases k2 : f.cl b < 4
      · rw [decide_eq_true k2] at n2
        rw [decide_eq_false (show ¬ f.cl c < 4 from fun k3 => kn ⟨k1, k2, k3⟩)] at n3
        repeat (conv => whnf); first | refine br_tt ?_ | refine br_ff ?_ | refine ⟨_, awake5_snd, ?_⟩ | refine ⟨_, o1, ?_⟩ | refine ⟨_, d1, ?_⟩ | refine ⟨_, c1, ?_⟩ | refine ⟨_, c2, ?_⟩ | refine ⟨_, n1, ?_⟩ | refine ⟨_, n2, ?_⟩ | refine ⟨_, n3, ?_⟩ | refine br_f w1 ?_ | refine br_f w2 ?_ | refine br_f w3 ?_ | refine br_f w4 ?_ | refine br_t w5 ?_ | refine And.intro (by kernel_rfl) ?_ | refine And.intro (by decide) ?_
        exact congrArg (fun b => AV.a (.b b)) w6
      · rw [decide_eq_false k2] at n2
        repeat (conv => whnf); first | refine br_tt ?_ | refine br_ff ?_ | refine ⟨_, awake5_snd, ?_⟩ | refine ⟨_, o1, ?_⟩ | refine ⟨_, d1, ?_⟩ | refine ⟨_, c1, ?_⟩ | refine ⟨_, c2, ?_⟩ | refine ⟨_, n1, ?_⟩ | refine ⟨_, n2, ?_⟩ | refine ⟨_, n3, ?_⟩ | refine br_f w1 ?_ | refine br_f w2 ?_ | refine br_f w3 ?_ | refine br_f w4 ?_ | refine br_t w5 ?_ | refine And.intro (by kernel_rfl) ?_ | refine And.intro (by decide) ?_
        exact congrArg (fun b => AV.a (.b b)) w6
    · rw [decide_eq_false k1] at n1
      repeat (conv => whnf); first | refine br_tt ?_ | refine br_ff ?_ | refine ⟨_, awake5_snd, ?_⟩ | refine ⟨_, o1, ?_⟩ | refine ⟨_, d1, ?_⟩ | refine ⟨_, c1, ?_⟩ | refine ⟨_, c2, ?_⟩ | refine ⟨_, n1, ?_⟩ | refine ⟨_, n2, ?_⟩ | refine ⟨_, n3, ?_⟩ | refine br_f w1 ?_ | refine br_f w2 ?_ | refine br_f w3 ?_ | refine br_f w4 ?_ | refine br_t w5 ?_ | refine And.intro (by kernel_rfl) ?_ | refine And.intro (by decide) ?_
      exact congrArg (fun b => AV.a (.b b)) w6
end Go.Proofs.Ytlaffgojgfdlnaa.A
