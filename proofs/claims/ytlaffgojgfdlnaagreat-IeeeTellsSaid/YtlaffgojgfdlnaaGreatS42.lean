/- The contracts of reference 5, and the law IeeeTells answers true, at every input of its types. -/
import Derived.Test.YtlaffgojgfdlnaaGreatS41
set_option linter.unusedVariables false
set_option linter.unusedSimpArgs false
set_option linter.constructorNameAsVariable false
set_option linter.unusedSectionVars false
set_option maxRecDepth 100000
set_option maxHeartbeats 8000000
namespace Go.Proofs.YtlaffgojgfdlnaaGreat.A
open Go.RowKit Go.Proofs.YtlaffgojgfdlnaaGreat.P Go.Proofs.YtlaffgojgfdlnaaGreatW.PrintWords Go.Proofs.YtlaffgojgfdlnaaGreatW.PrintMore Go.Proofs.YtlaffgojgfdlnaaGreat.N Sk Dy
/-! ### Reference 5 -/
theorem bneq_self (x : Int) : (x != x) = false := bne_self_eq_false _
section
variable {f : Fm} (h : f.ok)
include h
theorem rwrong2_snd (mode : Int) {a b : Nat} (ha : a < 2 ^ 64) (hb : b < 2 ^ 64) : Snd Tryz.prog 22 [.g (fmA f), .a (iA mode), .a (.v .u64 [(a : Int), (b : Int)])] (.a (iA (f.mayE mode [a, b]))) := by
  have c1 := rparts_snd3 h ha
  have c2 := rparts_snd3 h hb
  obtain ⟨g0, g1⟩ := idx2 (a : Int) (b : Int)
  refine snd_of ttOk mixed Tryz.func22 Tryz.ntmps22 rfl (by kernel_rfl) rfl ?_
  unfold Fm.mayE
  by_cases m1 : mode < 0
  · have z1 := decide_eq_true m1
    rw [if_pos (.inl m1)]
    repeat (conv => whnf); first | refine br_tt ?_ | refine br_ff ?_ | refine br_t z1 ?_ | refine And.intro (by kernel_rfl) ?_ | refine And.intro (by decide) ?_
    rfl
  have z1 := decide_eq_false m1
  by_cases m2 : mode > 4
  · have z2 := decide_eq_true m2
    rw [if_pos (.inr (by omega))]
    repeat (conv => whnf); first | refine br_tt ?_ | refine br_ff ?_ | refine br_f z1 ?_ | refine br_t z2 ?_ | refine And.intro (by kernel_rfl) ?_ | refine And.intro (by decide) ?_
    rfl
  have z2 := decide_eq_false m2
  rw [if_neg (by omega)]
  simp only [List.all_cons, List.all_nil, Bool.and_true]
  have w1 : decide (a < 2 ^ (f.p + f.w)) = !decide (2 ^ (f.p + f.w) ≤ a) := by by_cases k : a < 2 ^ (f.p + f.w) <;> simp [k] <;> omega
  have w2 : decide (b < 2 ^ (f.p + f.w)) = !decide (2 ^ (f.p + f.w) ≤ b) := by by_cases k : b < 2 ^ (f.p + f.w) <;> simp [k] <;> omega
  rw [w1, w2]
  clear w1 w2
  generalize decide (2 ^ (f.p + f.w) ≤ a) = xa at *
  generalize decide (2 ^ (f.p + f.w) ≤ b) = xb at *
  cases xa <;> cases xb
  all_goals
    repeat (conv => whnf); first | refine ⟨4, ?_⟩ | refine br_tt ?_ | refine br_ff ?_ | refine ⟨_, c1, ?_⟩ | refine ⟨_, c2, ?_⟩ | refine br_f z1 ?_ | refine br_f z2 ?_ | refine And.intro g0 ?_ | refine And.intro g1 ?_ | refine And.intro (by kernel_rfl) ?_ | refine And.intro (by decide) ?_
    rfl
theorem rwrong3_snd (mode : Int) {a b c : Nat} (ha : a < 2 ^ 64) (hb : b < 2 ^ 64) (hc : c < 2 ^ 64) : Snd Tryz.prog 22 [.g (fmA f), .a (iA mode), .a (.v .u64 [(a : Int), (b : Int), (c : Int)])] (.a (iA (f.mayE mode [a, b, c]))) := by
  have c1 := rparts_snd3 h ha
  have c2 := rparts_snd3 h hb
  have c3 := rparts_snd3 h hc
  obtain ⟨g0, g1, g2⟩ := idx3 (a : Int) (b : Int) (c : Int)
  refine snd_of ttOk mixed Tryz.func22 Tryz.ntmps22 rfl (by kernel_rfl) rfl ?_
  unfold Fm.mayE
  by_cases m1 : mode < 0
  · have z1 := decide_eq_true m1
    rw [if_pos (.inl m1)]
    repeat (conv => whnf); first | refine br_tt ?_ | refine br_ff ?_ | refine br_t z1 ?_ | refine And.intro (by kernel_rfl) ?_ | refine And.intro (by decide) ?_
    rfl
  have z1 := decide_eq_false m1
  by_cases m2 : mode > 4
  · have z2 := decide_eq_true m2
    rw [if_pos (.inr (by omega))]
    repeat (conv => whnf); first | refine br_tt ?_ | refine br_ff ?_ | refine br_f z1 ?_ | refine br_t z2 ?_ | refine And.intro (by kernel_rfl) ?_ | refine And.intro (by decide) ?_
    rfl
  have z2 := decide_eq_false m2
  rw [if_neg (by omega)]
  simp only [List.all_cons, List.all_nil, Bool.and_true]
  have w1 : decide (a < 2 ^ (f.p + f.w)) = !decide (2 ^ (f.p + f.w) ≤ a) := by by_cases k : a < 2 ^ (f.p + f.w) <;> simp [k] <;> omega
  have w2 : decide (b < 2 ^ (f.p + f.w)) = !decide (2 ^ (f.p + f.w) ≤ b) := by by_cases k : b < 2 ^ (f.p + f.w) <;> simp [k] <;> omega
  have w3 : decide (c < 2 ^ (f.p + f.w)) = !decide (2 ^ (f.p + f.w) ≤ c) := by by_cases k : c < 2 ^ (f.p + f.w) <;> simp [k] <;> omega
  rw [w1, w2, w3]
  clear w1 w2 w3
  generalize decide (2 ^ (f.p + f.w) ≤ a) = xa at *
  generalize decide (2 ^ (f.p + f.w) ≤ b) = xb at *
  generalize decide (2 ^ (f.p + f.w) ≤ c) = xc at *
  cases xa <;> cases xb <;> cases xc
  all_goals
    repeat (conv => whnf); first | refine ⟨5, ?_⟩ | refine br_tt ?_ | refine br_ff ?_ | refine ⟨_, c1, ?_⟩ | refine ⟨_, c2, ?_⟩ | refine ⟨_, c3, ?_⟩ | refine br_f z1 ?_ | refine br_f z2 ?_ | refine And.intro g0 ?_ | refine And.intro g1 ?_ | refine And.intro g2 ?_ | refine And.intro (by kernel_rfl) ?_ | refine And.intro (by decide) ?_
    rfl
theorem rfirst3_snd {a b c : Nat} (ha : a < 2 ^ 64) (hb : b < 2 ^ 64) (hc : c < 2 ^ 64) : Snd Tryz.prog 36 [.g (fmA f), .a (.v .u64 [(a : Int), (b : Int), (c : Int)])] (.t [.a (uA (f.firstR [a, b, c]).1), .a (.b (f.firstR [a, b, c]).2)]) := by
  have c1 := rcl_snd h ha
  have c2 := rcl_snd h hb
  have c3 := rcl_snd h hc
  have d1 := rqui_snd h ha
  have d2 := rqui_snd h hb
  have d3 := rqui_snd h hc
  have st : ∀ (b : Nat) l, f.firstR (b :: l) = if 4 ≤ f.cl b then (f.qui b, true) else f.firstR l := fun _ _ => rfl
  obtain ⟨g0, g1, g2⟩ := idx3 (a : Int) (b : Int) (c : Int)
  refine snd_of ttOk mixed Tryz.func36 Tryz.ntmps36 rfl (by kernel_rfl) rfl ?_
  rw [st, st, st, show f.firstR [] = (0, false) from rfl]
  have x1 : decide (((f.cl a : Nat) : Int) ≥ 4) = decide (4 ≤ f.cl a) := decide_eq_decide.2 (by omega)
  have x2 : decide (((f.cl b : Nat) : Int) ≥ 4) = decide (4 ≤ f.cl b) := decide_eq_decide.2 (by omega)
  have x3 : decide (((f.cl c : Nat) : Int) ≥ 4) = decide (4 ≤ f.cl c) := decide_eq_decide.2 (by omega)
  by_cases k1 : 4 ≤ f.cl a
  · rw [decide_eq_true k1] at x1
    rw [if_pos k1]
    repeat (conv => whnf); first | refine ⟨5, ?_⟩ | refine br_tt ?_ | refine br_ff ?_ | refine ⟨_, c1, ?_⟩ | refine ⟨_, c2, ?_⟩ | refine ⟨_, c3, ?_⟩ | refine ⟨_, d1, ?_⟩ | refine ⟨_, d2, ?_⟩ | refine ⟨_, d3, ?_⟩ | refine br_t x1 ?_ | refine And.intro g0 ?_ | refine And.intro g1 ?_ | refine And.intro g2 ?_ | refine And.intro (by kernel_rfl) ?_ | refine And.intro (by decide) ?_
    rfl
  rw [decide_eq_false k1] at x1
  rw [if_neg k1]
  by_cases k2 : 4 ≤ f.cl b
  · rw [decide_eq_true k2] at x2
    rw [if_pos k2]
    repeat (conv => whnf); first | refine ⟨5, ?_⟩ | refine br_tt ?_ | refine br_ff ?_ | refine ⟨_, c1, ?_⟩ | refine ⟨_, c2, ?_⟩ | refine ⟨_, c3, ?_⟩ | refine ⟨_, d1, ?_⟩ | refine ⟨_, d2, ?_⟩ | refine ⟨_, d3, ?_⟩ | refine br_f x1 ?_ | refine br_t x2 ?_ | refine And.intro g0 ?_ | refine And.intro g1 ?_ | refine And.intro g2 ?_ | refine And.intro (by kernel_rfl) ?_ | refine And.intro (by decide) ?_
    rfl
  rw [decide_eq_false k2] at x2
  rw [if_neg k2]
  by_cases k3 : 4 ≤ f.cl c
  · rw [decide_eq_true k3] at x3
    rw [if_pos k3]
    repeat (conv => whnf); first | refine ⟨5, ?_⟩ | refine br_tt ?_ | refine br_ff ?_ | refine ⟨_, c1, ?_⟩ | refine ⟨_, c2, ?_⟩ | refine ⟨_, c3, ?_⟩ | refine ⟨_, d1, ?_⟩ | refine ⟨_, d2, ?_⟩ | refine ⟨_, d3, ?_⟩ | refine br_f x1 ?_ | refine br_f x2 ?_ | refine br_t x3 ?_ | refine And.intro g0 ?_ | refine And.intro g1 ?_ | refine And.intro g2 ?_ | refine And.intro (by kernel_rfl) ?_ | refine And.intro (by decide) ?_
    rfl
  rw [decide_eq_false k3] at x3
  rw [if_neg k3]
  repeat (conv => whnf); first | refine ⟨5, ?_⟩ | refine br_tt ?_ | refine br_ff ?_ | refine ⟨_, c1, ?_⟩ | refine ⟨_, c2, ?_⟩ | refine ⟨_, c3, ?_⟩ | refine ⟨_, d1, ?_⟩ | refine ⟨_, d2, ?_⟩ | refine ⟨_, d3, ?_⟩ | refine br_f x1 ?_ | refine br_f x2 ?_ | refine br_f x3 ?_ | refine And.intro g0 ?_ | refine And.intro g1 ?_ | refine And.intro g2 ?_ | refine And.intro (by kernel_rfl) ?_ | refine And.intro (by decide) ?_
  rfl
theorem rsig3_snd {a b c : Nat} (ha : a < 2 ^ 64) (hb : b < 2 ^ 64) (hc : c < 2 ^ 64) : Snd Tryz.prog 37 [.g (fmA f), .a (.v .u64 [(a : Int), (b : Int), (c : Int)])] (.a (.b (f.sigR [a, b, c]))) := by
  have c1 := rcl_snd h ha
  have c2 := rcl_snd h hb
  have c3 := rcl_snd h hc
  have st : ∀ (b : Nat) l, f.sigR (b :: l) = if f.cl b = 5 then true else f.sigR l := fun _ _ => rfl
  obtain ⟨g0, g1, g2⟩ := idx3 (a : Int) (b : Int) (c : Int)
  refine snd_of ttOk mixed Tryz.func37 Tryz.ntmps37 rfl (by kernel_rfl) rfl ?_
  rw [st, st, st, show f.sigR [] = false from rfl]
  have x1 := beqN (f.cl a) 5
  have x2 := beqN (f.cl b) 5
  have x3 := beqN (f.cl c) 5
  by_cases k1 : f.cl a = 5
  · rw [decide_eq_true k1] at x1
    rw [if_pos k1]
    repeat (conv => whnf); first | refine ⟨5, ?_⟩ | refine br_tt ?_ | refine br_ff ?_ | refine ⟨_, c1, ?_⟩ | refine ⟨_, c2, ?_⟩ | refine ⟨_, c3, ?_⟩ | refine br_t x1 ?_ | refine And.intro g0 ?_ | refine And.intro g1 ?_ | refine And.intro g2 ?_ | refine And.intro (by kernel_rfl) ?_ | refine And.intro (by decide) ?_
    rfl
  rw [decide_eq_false k1] at x1
  rw [if_neg k1]
  by_cases k2 : f.cl b = 5
  · rw [decide_eq_true k2] at x2
    rw [if_pos k2]
    repeat (conv => whnf); first | refine ⟨5, ?_⟩ | refine br_tt ?_ | refine br_ff ?_ | refine ⟨_, c1, ?_⟩ | refine ⟨_, c2, ?_⟩ | refine ⟨_, c3, ?_⟩ | refine br_f x1 ?_ | refine br_t x2 ?_ | refine And.intro g0 ?_ | refine And.intro g1 ?_ | refine And.intro g2 ?_ | refine And.intro (by kernel_rfl) ?_ | refine And.intro (by decide) ?_
    rfl
  rw [decide_eq_false k2] at x2
  rw [if_neg k2]
  by_cases k3 : f.cl c = 5
  · rw [decide_eq_true k3] at x3
    rw [if_pos k3]
    repeat (conv => whnf); first | refine ⟨5, ?_⟩ | refine br_tt ?_ | refine br_ff ?_ | refine ⟨_, c1, ?_⟩ | refine ⟨_, c2, ?_⟩ | refine ⟨_, c3, ?_⟩ | refine br_f x1 ?_ | refine br_f x2 ?_ | refine br_t x3 ?_ | refine And.intro g0 ?_ | refine And.intro g1 ?_ | refine And.intro g2 ?_ | refine And.intro (by kernel_rfl) ?_ | refine And.intro (by decide) ?_
    rfl
  rw [decide_eq_false k3] at x3
  rw [if_neg k3]
  repeat (conv => whnf); first | refine ⟨5, ?_⟩ | refine br_tt ?_ | refine br_ff ?_ | refine ⟨_, c1, ?_⟩ | refine ⟨_, c2, ?_⟩ | refine ⟨_, c3, ?_⟩ | refine br_f x1 ?_ | refine br_f x2 ?_ | refine br_f x3 ?_ | refine And.intro g0 ?_ | refine And.intro g1 ?_ | refine And.intro g2 ?_ | refine And.intro (by kernel_rfl) ?_ | refine And.intro (by decide) ?_
  rfl
theorem rneg_snd {a : Nat} (ha : a < 2 ^ 64) : Snd Tryz.prog 33 [.g (fmA f), .a (uA a)] (.a (.b (f.sn a))) := by
  have c1 := rparts_snd3 h ha
  refine snd_of ttOk mixed Tryz.func33 Tryz.ntmps33 rfl (by kernel_rfl) rfl ?_
  repeat (conv => whnf); first | refine br_tt ?_ | refine br_ff ?_ | refine ⟨_, c1, ?_⟩ | refine And.intro (by kernel_rfl) ?_ | refine And.intro (by decide) ?_
  exact congrArg (fun b => AV.a (.b b)) (sb_eq h a)
theorem sb_ne (a : Nat) : (((sb f a : Nat) : Int) == 0) = !f.sn a := by
  have := sb_sn h a
  have hb : sb f a = 0 ∨ sb f a = 1 := by unfold sb; omega
  cases hs : f.sn a
  · have : sb f a = 0 := by
      rcases hb with e | e
      · exact e
      · rw [e, hs] at this; simp at this
    rw [this]; rfl
  · have : sb f a = 1 := by rw [hs] at this; have := this.2 rfl; omega
    rw [this]; rfl
theorem rturned5_snd {a : Nat} (ha : a < 2 ^ 64) : Snd Tryz.prog 16 [.g (fmA f), .a (uA a)] (.a (uA (f.trn a))) := by
  have c1 := rparts_snd3 h ha
  have c2 := rbld_snd h (neg := ((sb f a : Nat) : Int) == 0) (e := f.ex a) (x := f.fr a) Fm.ex_lt (Fm.fr_lt h)
  refine snd_of ttOk mixed Tryz.func16 Tryz.ntmps16 rfl (by kernel_rfl) rfl ?_
  repeat (conv => whnf); first | refine br_tt ?_ | refine br_ff ?_ | refine ⟨_, c1, ?_⟩ | refine ⟨_, c2, ?_⟩ | refine And.intro (by kernel_rfl) ?_ | refine And.intro (by decide) ?_
  rw [Fm.trn_all h, sb_ne h]
  rfl
theorem rone_snd : Snd Tryz.prog 21 [.g (fmA f)] (.a (uA f.one)) := by
  have hB := Fm.bounds h
  have c1 := rbias_snd h
  have w1 : IntKind.wrap .u64 f.bias = ((f.bias.toNat : Nat) : Int) := by rw [wU (by omega) (by omega)]; omega
  have c2 := rbld_snd h (neg := false) (e := f.bias.toNat) (x := 0) (by omega) (Nat.two_pow_pos _)
  have c2' : Snd Tryz.prog 32 [.g (fmA f), .a (.b false), .a (.i .u64 (IntKind.wrap .u64 f.bias)), .a (uA 0)] (.a (uA (f.bld false f.bias.toNat 0))) := by rw [w1]; exact c2
  refine snd_of ttOk mixed Tryz.func21 Tryz.ntmps21 rfl (by kernel_rfl) rfl ?_
  repeat (conv => whnf); first | refine br_tt ?_ | refine br_ff ?_ | refine ⟨_, c1, ?_⟩ | refine ⟨_, c2', ?_⟩ | refine And.intro (by kernel_rfl) ?_ | refine And.intro (by decide) ?_
  rfl
theorem rfma_snd (mode : Int) {a b c : Nat} (ha : a < 2 ^ 64) (hb : b < 2 ^ 64) (hc : c < 2 ^ 64) : Snd Tryz.prog 14 [.g (fmA f), .a (iA mode), .a (uA a), .a (uA b), .a (uA c)] (tA (f.fmaR mode a b c)) := by
  have c1 := rwrong3_snd h mode ha hb hc
  have k1 := rcl_snd h ha
  have k2 := rcl_snd h hb
  have k3 := rcl_snd h hc
  have c2 := rfirst3_snd h ha hb hc
  have c3 := rsig3_snd h ha hb hc
  have n1 := rneg_snd h ha
  have n2 := rneg_snd h hb
  have n3 := rneg_snd h hc
  have i1 := rnone_snd h
  have i2 := rinf_snd h (!(f.sn a == f.sn b))
  have d1 := rval_snd h ha
  have d2 := rval_snd h hb
  have d3 := rval_snd h hc
  have d4 := rmul2_snd (f.val a).1 (f.val b).1
  have d5 := radd2_snd (Dy.mul (f.val a).1 (f.val b).1).1 (f.val c).1
  have u1 := beq_blen (n := (Dy.mul (f.val a).1 (f.val b).1).1.n)
  have u2 := beq_blen (n := (f.val c).1.n)
  have x3 := beqN (f.cl a) 3
  have x0 := beqN (f.cl a) 0
  have y3 := beqN (f.cl b) 3
  have y0 := beqN (f.cl b) 0
  have w3 := beqN (f.cl c) 3
  have nf := Fm.noneR_first (f := f) [a, b, c]
  refine snd_of ttOk mixed Tryz.func14 Tryz.ntmps14 rfl (by kernel_rfl) rfl ?_
  by_cases hm : f.mayE mode [a, b, c] = 0
  case neg =>
    have z1 : (f.mayE mode [a, b, c] != 0) = true := by rw [bne_iff_ne]; exact hm
    rw [show f.fmaR mode a b c = (0, 0, f.mayE mode [a, b, c]) from if_pos hm]
    repeat (conv => whnf); first | refine br_tt ?_ | refine br_ff ?_ | refine ⟨_, c1, ?_⟩ | refine br_t z1 ?_ | refine And.intro (by kernel_rfl) ?_ | refine And.intro (by decide) ?_
    rfl
  have z1 : (f.mayE mode [a, b, c] != 0) = false := by rw [hm]; rfl
  have vn : f.vain a b = decide ((f.cl a = 3 ∧ f.cl b = 0) ∨ (f.cl b = 3 ∧ f.cl a = 0)) := rfl
  have isc : (f.noneR [a, b, c]).2.2 = (f.firstR [a, b, c]).2 := by rw [nf]
  have R := @Fm.fmaR_num f a b c mode hm
  have RI : (f.firstR [a, b, c]).2 = true → f.fmaR mode a b c = ((f.firstR [a, b, c]).1, if f.vain a b = true then 16 else (if f.sigR [a, b, c] = true then 16 else 0), 0) := fun k => by
    unfold Fm.fmaR
    rw [if_neg (show ¬ (f.mayE mode [a, b, c] ≠ 0) by simp [hm]), if_pos (isc.trans k), nf, if_pos k]
  have e1 := to4_snd h mode (Dy.add (Dy.mul (f.val a).1 (f.val b).1).1 (f.val c).1).1 (mode == 2)
  have e2 := to4_snd h mode (Dy.add (Dy.mul (f.val a).1 (f.val b).1).1 (f.val c).1).1 (!(f.sn a == f.sn b))
  cases hi : (f.firstR [a, b, c]).2
  case true =>
    rw [RI hi]
    rw [hi] at c2
    clear R RI
    by_cases a3 : f.cl a = 3
    · rw [decide_eq_true a3] at x3
      by_cases b0 : f.cl b = 0
      · rw [decide_eq_true b0] at y0
        rw [show f.vain a b = true from decide_eq_true (by omega), if_pos rfl]
        repeat (conv => whnf); first | refine br_tt ?_ | refine br_ff ?_ | refine ⟨_, c1, ?_⟩ | refine ⟨_, c2, ?_⟩ | refine ⟨_, c3, ?_⟩ | refine ⟨_, k1, ?_⟩ | refine ⟨_, k2, ?_⟩ | refine ⟨_, k3, ?_⟩ | refine ⟨_, n1, ?_⟩ | refine ⟨_, n2, ?_⟩ | refine ⟨_, n3, ?_⟩ | refine ⟨_, i1, ?_⟩ | refine ⟨_, i2, ?_⟩ | refine br_f z1 ?_ | refine br_t x3 ?_ | refine br_f x3 ?_ | refine br_t x0 ?_ | refine br_f x0 ?_ | refine br_t y3 ?_ | refine br_f y3 ?_ | refine br_t y0 ?_ | refine br_f y0 ?_ | refine br_t w3 ?_ | refine br_f w3 ?_ | refine And.intro (by kernel_rfl) ?_ | refine And.intro (by decide) ?_
        rfl
      · rw [decide_eq_false b0] at y0
        rw [decide_eq_false (show ¬ f.cl a = 0 by omega)] at x0
        rw [show f.vain a b = false from decide_eq_false (by omega), if_neg (show ¬ (false = true) by simp)]
        generalize f.sigR [a, b, c] = sg at *
        cases sg
        all_goals
          repeat (conv => whnf); first | refine br_tt ?_ | refine br_ff ?_ | refine ⟨_, c1, ?_⟩ | refine ⟨_, c2, ?_⟩ | refine ⟨_, c3, ?_⟩ | refine ⟨_, k1, ?_⟩ | refine ⟨_, k2, ?_⟩ | refine ⟨_, k3, ?_⟩ | refine ⟨_, n1, ?_⟩ | refine ⟨_, n2, ?_⟩ | refine ⟨_, n3, ?_⟩ | refine ⟨_, i1, ?_⟩ | refine ⟨_, i2, ?_⟩ | refine br_f z1 ?_ | refine br_t x3 ?_ | refine br_f x3 ?_ | refine br_t x0 ?_ | refine br_f x0 ?_ | refine br_t y3 ?_ | refine br_f y3 ?_ | refine br_t y0 ?_ | refine br_f y0 ?_ | refine br_t w3 ?_ | refine br_f w3 ?_ | refine And.intro (by kernel_rfl) ?_ | refine And.intro (by decide) ?_
          rfl
    rw [decide_eq_false a3] at x3
    by_cases a0 : f.cl a = 0
    · rw [decide_eq_true a0] at x0
      by_cases b3 : f.cl b = 3
      · rw [decide_eq_true b3] at y3
        rw [show f.vain a b = true from decide_eq_true (by omega), if_pos rfl]
        repeat (conv => whnf); first | refine br_tt ?_ | refine br_ff ?_ | refine ⟨_, c1, ?_⟩ | refine ⟨_, c2, ?_⟩ | refine ⟨_, c3, ?_⟩ | refine ⟨_, k1, ?_⟩ | refine ⟨_, k2, ?_⟩ | refine ⟨_, k3, ?_⟩ | refine ⟨_, n1, ?_⟩ | refine ⟨_, n2, ?_⟩ | refine ⟨_, n3, ?_⟩ | refine ⟨_, i1, ?_⟩ | refine ⟨_, i2, ?_⟩ | refine br_f z1 ?_ | refine br_t x3 ?_ | refine br_f x3 ?_ | refine br_t x0 ?_ | refine br_f x0 ?_ | refine br_t y3 ?_ | refine br_f y3 ?_ | refine br_t y0 ?_ | refine br_f y0 ?_ | refine br_t w3 ?_ | refine br_f w3 ?_ | refine And.intro (by kernel_rfl) ?_ | refine And.intro (by decide) ?_
        rfl
      · rw [decide_eq_false b3] at y3
        rw [show f.vain a b = false from decide_eq_false (by omega), if_neg (show ¬ (false = true) by simp)]
        generalize f.sigR [a, b, c] = sg at *
        cases sg
        all_goals
          repeat (conv => whnf); first | refine br_tt ?_ | refine br_ff ?_ | refine ⟨_, c1, ?_⟩ | refine ⟨_, c2, ?_⟩ | refine ⟨_, c3, ?_⟩ | refine ⟨_, k1, ?_⟩ | refine ⟨_, k2, ?_⟩ | refine ⟨_, k3, ?_⟩ | refine ⟨_, n1, ?_⟩ | refine ⟨_, n2, ?_⟩ | refine ⟨_, n3, ?_⟩ | refine ⟨_, i1, ?_⟩ | refine ⟨_, i2, ?_⟩ | refine br_f z1 ?_ | refine br_t x3 ?_ | refine br_f x3 ?_ | refine br_t x0 ?_ | refine br_f x0 ?_ | refine br_t y3 ?_ | refine br_f y3 ?_ | refine br_t y0 ?_ | refine br_f y0 ?_ | refine br_t w3 ?_ | refine br_f w3 ?_ | refine And.intro (by kernel_rfl) ?_ | refine And.intro (by decide) ?_
          rfl
    rw [decide_eq_false a0] at x0
    rw [show f.vain a b = false from decide_eq_false (by omega), if_neg (show ¬ (false = true) by simp)]
    generalize f.sigR [a, b, c] = sg at *
    cases sg
    all_goals
      repeat (conv => whnf); first | refine br_tt ?_ | refine br_ff ?_ | refine ⟨_, c1, ?_⟩ | refine ⟨_, c2, ?_⟩ | refine ⟨_, c3, ?_⟩ | refine ⟨_, k1, ?_⟩ | refine ⟨_, k2, ?_⟩ | refine ⟨_, k3, ?_⟩ | refine ⟨_, n1, ?_⟩ | refine ⟨_, n2, ?_⟩ | refine ⟨_, n3, ?_⟩ | refine ⟨_, i1, ?_⟩ | refine ⟨_, i2, ?_⟩ | refine br_f z1 ?_ | refine br_t x3 ?_ | refine br_f x3 ?_ | refine br_t x0 ?_ | refine br_f x0 ?_ | refine br_t y3 ?_ | refine br_f y3 ?_ | refine br_t y0 ?_ | refine br_f y0 ?_ | refine br_t w3 ?_ | refine br_f w3 ?_ | refine And.intro (by kernel_rfl) ?_ | refine And.intro (by decide) ?_
      rfl
  rw [R (by rw [isc, hi]; simp)]
  rw [hi] at c2
  clear R RI
  by_cases a3 : f.cl a = 3
  · rw [decide_eq_true a3] at x3
    by_cases b0 : f.cl b = 0
    · rw [decide_eq_true b0] at y0
      rw [show f.vain a b = true from decide_eq_true (by omega), if_pos (.inl rfl)]
      repeat (conv => whnf); first | refine br_tt ?_ | refine br_ff ?_ | refine ⟨_, c1, ?_⟩ | refine ⟨_, c2, ?_⟩ | refine ⟨_, c3, ?_⟩ | refine ⟨_, k1, ?_⟩ | refine ⟨_, k2, ?_⟩ | refine ⟨_, k3, ?_⟩ | refine ⟨_, n1, ?_⟩ | refine ⟨_, n2, ?_⟩ | refine ⟨_, n3, ?_⟩ | refine ⟨_, i1, ?_⟩ | refine ⟨_, i2, ?_⟩ | refine br_f z1 ?_ | refine br_t x3 ?_ | refine br_f x3 ?_ | refine br_t x0 ?_ | refine br_f x0 ?_ | refine br_t y3 ?_ | refine br_f y3 ?_ | refine br_t y0 ?_ | refine br_f y0 ?_ | refine br_t w3 ?_ | refine br_f w3 ?_ | refine And.intro (by kernel_rfl) ?_ | refine And.intro (by decide) ?_
      rfl
    · rw [decide_eq_false b0] at y0
      rw [decide_eq_false (show ¬ f.cl a = 0 by omega)] at x0
      rw [show f.vain a b = false from decide_eq_false (by omega)]
      have hw : f.cl a = 3 ∨ f.cl b = 3 := .inl a3
      by_cases hc3 : f.cl c = 3
      · rw [decide_eq_true hc3] at w3
        by_cases hs : f.sn c = (f.sn a != f.sn b)
        · have zs : (!(f.sn c == (!(f.sn a == f.sn b)))) = false := by rw [hs]; cases f.sn a <;> cases f.sn b <;> rfl
          rw [if_neg (fun k => k.elim (fun k => Bool.noConfusion k) (fun k => k.2.2 hs)), if_pos hw]
          repeat (conv => whnf); first | refine br_tt ?_ | refine br_ff ?_ | refine ⟨_, c1, ?_⟩ | refine ⟨_, c2, ?_⟩ | refine ⟨_, c3, ?_⟩ | refine ⟨_, k1, ?_⟩ | refine ⟨_, k2, ?_⟩ | refine ⟨_, k3, ?_⟩ | refine ⟨_, n1, ?_⟩ | refine ⟨_, n2, ?_⟩ | refine ⟨_, n3, ?_⟩ | refine ⟨_, i1, ?_⟩ | refine ⟨_, i2, ?_⟩ | refine br_f z1 ?_ | refine br_t x3 ?_ | refine br_f x3 ?_ | refine br_t x0 ?_ | refine br_f x0 ?_ | refine br_t y3 ?_ | refine br_f y3 ?_ | refine br_t y0 ?_ | refine br_f y0 ?_ | refine br_t w3 ?_ | refine br_f w3 ?_ | refine br_f zs ?_ | refine And.intro (by kernel_rfl) ?_ | refine And.intro (by decide) ?_
          rfl
        · have zs : (!(f.sn c == (!(f.sn a == f.sn b)))) = true := by revert hs; cases f.sn a <;> cases f.sn b <;> cases f.sn c <;> simp
          rw [if_pos (.inr ⟨hw, hc3, hs⟩)]
          repeat (conv => whnf); first | refine br_tt ?_ | refine br_ff ?_ | refine ⟨_, c1, ?_⟩ | refine ⟨_, c2, ?_⟩ | refine ⟨_, c3, ?_⟩ | refine ⟨_, k1, ?_⟩ | refine ⟨_, k2, ?_⟩ | refine ⟨_, k3, ?_⟩ | refine ⟨_, n1, ?_⟩ | refine ⟨_, n2, ?_⟩ | refine ⟨_, n3, ?_⟩ | refine ⟨_, i1, ?_⟩ | refine ⟨_, i2, ?_⟩ | refine br_f z1 ?_ | refine br_t x3 ?_ | refine br_f x3 ?_ | refine br_t x0 ?_ | refine br_f x0 ?_ | refine br_t y3 ?_ | refine br_f y3 ?_ | refine br_t y0 ?_ | refine br_f y0 ?_ | refine br_t w3 ?_ | refine br_f w3 ?_ | refine br_t zs ?_ | refine And.intro (by kernel_rfl) ?_ | refine And.intro (by decide) ?_
          rfl
      · rw [decide_eq_false hc3] at w3
        rw [if_neg (fun k => k.elim (fun k => Bool.noConfusion k) (fun k => hc3 k.2.1)), if_pos hw]
        repeat (conv => whnf); first | refine br_tt ?_ | refine br_ff ?_ | refine ⟨_, c1, ?_⟩ | refine ⟨_, c2, ?_⟩ | refine ⟨_, c3, ?_⟩ | refine ⟨_, k1, ?_⟩ | refine ⟨_, k2, ?_⟩ | refine ⟨_, k3, ?_⟩ | refine ⟨_, n1, ?_⟩ | refine ⟨_, n2, ?_⟩ | refine ⟨_, n3, ?_⟩ | refine ⟨_, i1, ?_⟩ | refine ⟨_, i2, ?_⟩ | refine br_f z1 ?_ | refine br_t x3 ?_ | refine br_f x3 ?_ | refine br_t x0 ?_ | refine br_f x0 ?_ | refine br_t y3 ?_ | refine br_f y3 ?_ | refine br_t y0 ?_ | refine br_f y0 ?_ | refine br_t w3 ?_ | refine br_f w3 ?_ | refine And.intro (by kernel_rfl) ?_ | refine And.intro (by decide) ?_
        rfl
  rw [decide_eq_false a3] at x3
  by_cases a0 : f.cl a = 0
  · rw [decide_eq_true a0] at x0
    by_cases b3 : f.cl b = 3
    · rw [decide_eq_true b3] at y3
      rw [show f.vain a b = true from decide_eq_true (by omega), if_pos (.inl rfl)]
      repeat (conv => whnf); first | refine br_tt ?_ | refine br_ff ?_ | refine ⟨_, c1, ?_⟩ | refine ⟨_, c2, ?_⟩ | refine ⟨_, c3, ?_⟩ | refine ⟨_, k1, ?_⟩ | refine ⟨_, k2, ?_⟩ | refine ⟨_, k3, ?_⟩ | refine ⟨_, n1, ?_⟩ | refine ⟨_, n2, ?_⟩ | refine ⟨_, n3, ?_⟩ | refine ⟨_, i1, ?_⟩ | refine ⟨_, i2, ?_⟩ | refine br_f z1 ?_ | refine br_t x3 ?_ | refine br_f x3 ?_ | refine br_t x0 ?_ | refine br_f x0 ?_ | refine br_t y3 ?_ | refine br_f y3 ?_ | refine br_t y0 ?_ | refine br_f y0 ?_ | refine br_t w3 ?_ | refine br_f w3 ?_ | refine And.intro (by kernel_rfl) ?_ | refine And.intro (by decide) ?_
      rfl
    · rw [decide_eq_false b3] at y3
      rw [show f.vain a b = false from decide_eq_false (by omega)]
      have hw : ¬ (f.cl a = 3 ∨ f.cl b = 3) := by omega
      rw [if_neg (fun k => k.elim (fun k => Bool.noConfusion k) (fun k => hw k.1)), if_neg hw]
      by_cases hc3 : f.cl c = 3
      · rw [decide_eq_true hc3] at w3
        rw [if_pos hc3]
        repeat (conv => whnf); first | refine br_tt ?_ | refine br_ff ?_ | refine ⟨_, c1, ?_⟩ | refine ⟨_, c2, ?_⟩ | refine ⟨_, c3, ?_⟩ | refine ⟨_, k1, ?_⟩ | refine ⟨_, k2, ?_⟩ | refine ⟨_, k3, ?_⟩ | refine ⟨_, n1, ?_⟩ | refine ⟨_, n2, ?_⟩ | refine ⟨_, n3, ?_⟩ | refine ⟨_, i1, ?_⟩ | refine ⟨_, i2, ?_⟩ | refine br_f z1 ?_ | refine br_t x3 ?_ | refine br_f x3 ?_ | refine br_t x0 ?_ | refine br_f x0 ?_ | refine br_t y3 ?_ | refine br_f y3 ?_ | refine br_t y0 ?_ | refine br_f y0 ?_ | refine br_t w3 ?_ | refine br_f w3 ?_ | refine And.intro (by kernel_rfl) ?_ | refine And.intro (by decide) ?_
        rfl
      rw [decide_eq_false hc3] at w3
      rw [if_neg hc3]
      by_cases hp : (Dy.mul (f.val a).1 (f.val b).1).1.n = 0
      case neg =>
        rw [decide_eq_false hp] at u1
        rw [if_neg (fun k => hp k.1)]
        repeat (conv => whnf); first | refine br_tt ?_ | refine br_ff ?_ | refine ⟨_, c1, ?_⟩ | refine ⟨_, c2, ?_⟩ | refine ⟨_, c3, ?_⟩ | refine ⟨_, k1, ?_⟩ | refine ⟨_, k2, ?_⟩ | refine ⟨_, k3, ?_⟩ | refine ⟨_, n1, ?_⟩ | refine ⟨_, n2, ?_⟩ | refine ⟨_, n3, ?_⟩ | refine ⟨_, i1, ?_⟩ | refine ⟨_, i2, ?_⟩ | refine ⟨_, d1, ?_⟩ | refine ⟨_, d2, ?_⟩ | refine ⟨_, d3, ?_⟩ | refine ⟨_, d4, ?_⟩ | refine ⟨_, d5, ?_⟩ | refine ⟨_, e1, ?_⟩ | refine ⟨_, e2, ?_⟩ | refine br_f z1 ?_ | refine br_t x3 ?_ | refine br_f x3 ?_ | refine br_t x0 ?_ | refine br_f x0 ?_ | refine br_t y3 ?_ | refine br_f y3 ?_ | refine br_t y0 ?_ | refine br_f y0 ?_ | refine br_t w3 ?_ | refine br_f w3 ?_ | refine br_f u1 ?_ | refine And.intro (by kernel_rfl) ?_ | refine And.intro (by decide) ?_
        rfl
      rw [decide_eq_true hp] at u1
      by_cases hz0 : (f.val c).1.n = 0
      case neg =>
        rw [decide_eq_false hz0] at u2
        rw [if_neg (fun k => hz0 k.2.1)]
        repeat (conv => whnf); first | refine br_tt ?_ | refine br_ff ?_ | refine ⟨_, c1, ?_⟩ | refine ⟨_, c2, ?_⟩ | refine ⟨_, c3, ?_⟩ | refine ⟨_, k1, ?_⟩ | refine ⟨_, k2, ?_⟩ | refine ⟨_, k3, ?_⟩ | refine ⟨_, n1, ?_⟩ | refine ⟨_, n2, ?_⟩ | refine ⟨_, n3, ?_⟩ | refine ⟨_, i1, ?_⟩ | refine ⟨_, i2, ?_⟩ | refine ⟨_, d1, ?_⟩ | refine ⟨_, d2, ?_⟩ | refine ⟨_, d3, ?_⟩ | refine ⟨_, d4, ?_⟩ | refine ⟨_, d5, ?_⟩ | refine ⟨_, e1, ?_⟩ | refine ⟨_, e2, ?_⟩ | refine br_f z1 ?_ | refine br_t x3 ?_ | refine br_f x3 ?_ | refine br_t x0 ?_ | refine br_f x0 ?_ | refine br_t y3 ?_ | refine br_f y3 ?_ | refine br_t y0 ?_ | refine br_f y0 ?_ | refine br_t w3 ?_ | refine br_f w3 ?_ | refine br_t u1 ?_ | refine br_f u2 ?_ | refine And.intro (by kernel_rfl) ?_ | refine And.intro (by decide) ?_
        rfl
      rw [decide_eq_true hz0] at u2
      by_cases hs : f.sn c = (f.sn a != f.sn b)
      · have zs : (f.sn c == (!(f.sn a == f.sn b))) = true := by rw [hs]; cases f.sn a <;> cases f.sn b <;> rfl
        rw [if_pos ⟨hp, hz0, hs⟩]
        repeat (conv => whnf); first | refine br_tt ?_ | refine br_ff ?_ | refine ⟨_, c1, ?_⟩ | refine ⟨_, c2, ?_⟩ | refine ⟨_, c3, ?_⟩ | refine ⟨_, k1, ?_⟩ | refine ⟨_, k2, ?_⟩ | refine ⟨_, k3, ?_⟩ | refine ⟨_, n1, ?_⟩ | refine ⟨_, n2, ?_⟩ | refine ⟨_, n3, ?_⟩ | refine ⟨_, i1, ?_⟩ | refine ⟨_, i2, ?_⟩ | refine ⟨_, d1, ?_⟩ | refine ⟨_, d2, ?_⟩ | refine ⟨_, d3, ?_⟩ | refine ⟨_, d4, ?_⟩ | refine ⟨_, d5, ?_⟩ | refine ⟨_, e1, ?_⟩ | refine ⟨_, e2, ?_⟩ | refine br_f z1 ?_ | refine br_t x3 ?_ | refine br_f x3 ?_ | refine br_t x0 ?_ | refine br_f x0 ?_ | refine br_t y3 ?_ | refine br_f y3 ?_ | refine br_t y0 ?_ | refine br_f y0 ?_ | refine br_t w3 ?_ | refine br_f w3 ?_ | refine br_t u1 ?_ | refine br_t u2 ?_ | refine br_t zs ?_ | refine And.intro (by kernel_rfl) ?_ | refine And.intro (by decide) ?_
        rfl
      · have zs : (f.sn c == (!(f.sn a == f.sn b))) = false := by revert hs; cases f.sn a <;> cases f.sn b <;> cases f.sn c <;> simp
        rw [if_neg (fun k => hs k.2.2)]
        repeat (conv => whnf); first | refine br_tt ?_ | refine br_ff ?_ | refine ⟨_, c1, ?_⟩ | refine ⟨_, c2, ?_⟩ | refine ⟨_, c3, ?_⟩ | refine ⟨_, k1, ?_⟩ | refine ⟨_, k2, ?_⟩ | refine ⟨_, k3, ?_⟩ | refine ⟨_, n1, ?_⟩ | refine ⟨_, n2, ?_⟩ | refine ⟨_, n3, ?_⟩ | refine ⟨_, i1, ?_⟩ | refine ⟨_, i2, ?_⟩ | refine ⟨_, d1, ?_⟩ | refine ⟨_, d2, ?_⟩ | refine ⟨_, d3, ?_⟩ | refine ⟨_, d4, ?_⟩ | refine ⟨_, d5, ?_⟩ | refine ⟨_, e1, ?_⟩ | refine ⟨_, e2, ?_⟩ | refine br_f z1 ?_ | refine br_t x3 ?_ | refine br_f x3 ?_ | refine br_t x0 ?_ | refine br_f x0 ?_ | refine br_t y3 ?_ | refine br_f y3 ?_ | refine br_t y0 ?_ | refine br_f y0 ?_ | refine br_t w3 ?_ | refine br_f w3 ?_ | refine br_t u1 ?_ | refine br_t u2 ?_ | refine br_f zs ?_ | refine And.intro (by kernel_rfl) ?_ | refine And.intro (by decide) ?_
        rfl
  rw [decide_eq_false a0] at x0
  rw [show f.vain a b = false from decide_eq_false (by omega)]
  by_cases b3 : f.cl b = 3
  · rw [decide_eq_true b3] at y3
    have hw : f.cl a = 3 ∨ f.cl b = 3 := .inr b3
    by_cases hc3 : f.cl c = 3
    · rw [decide_eq_true hc3] at w3
      by_cases hs : f.sn c = (f.sn a != f.sn b)
      · have zs : (!(f.sn c == (!(f.sn a == f.sn b)))) = false := by rw [hs]; cases f.sn a <;> cases f.sn b <;> rfl
        rw [if_neg (fun k => k.elim (fun k => Bool.noConfusion k) (fun k => k.2.2 hs)), if_pos hw]
        repeat (conv => whnf); first | refine br_tt ?_ | refine br_ff ?_ | refine ⟨_, c1, ?_⟩ | refine ⟨_, c2, ?_⟩ | refine ⟨_, c3, ?_⟩ | refine ⟨_, k1, ?_⟩ | refine ⟨_, k2, ?_⟩ | refine ⟨_, k3, ?_⟩ | refine ⟨_, n1, ?_⟩ | refine ⟨_, n2, ?_⟩ | refine ⟨_, n3, ?_⟩ | refine ⟨_, i1, ?_⟩ | refine ⟨_, i2, ?_⟩ | refine br_f z1 ?_ | refine br_t x3 ?_ | refine br_f x3 ?_ | refine br_t x0 ?_ | refine br_f x0 ?_ | refine br_t y3 ?_ | refine br_f y3 ?_ | refine br_t y0 ?_ | refine br_f y0 ?_ | refine br_t w3 ?_ | refine br_f w3 ?_ | refine br_f zs ?_ | refine And.intro (by kernel_rfl) ?_ | refine And.intro (by decide) ?_
        rfl
      · have zs : (!(f.sn c == (!(f.sn a == f.sn b)))) = true := by revert hs; cases f.sn a <;> cases f.sn b <;> cases f.sn c <;> simp
        rw [if_pos (.inr ⟨hw, hc3, hs⟩)]
        repeat (conv => whnf); first | refine br_tt ?_ | refine br_ff ?_ | refine ⟨_, c1, ?_⟩ | refine ⟨_, c2, ?_⟩ | refine ⟨_, c3, ?_⟩ | refine ⟨_, k1, ?_⟩ | refine ⟨_, k2, ?_⟩ | refine ⟨_, k3, ?_⟩ | refine ⟨_, n1, ?_⟩ | refine ⟨_, n2, ?_⟩ | refine ⟨_, n3, ?_⟩ | refine ⟨_, i1, ?_⟩ | refine ⟨_, i2, ?_⟩ | refine br_f z1 ?_ | refine br_t x3 ?_ | refine br_f x3 ?_ | refine br_t x0 ?_ | refine br_f x0 ?_ | refine br_t y3 ?_ | refine br_f y3 ?_ | refine br_t y0 ?_ | refine br_f y0 ?_ | refine br_t w3 ?_ | refine br_f w3 ?_ | refine br_t zs ?_ | refine And.intro (by kernel_rfl) ?_ | refine And.intro (by decide) ?_
        rfl
    · rw [decide_eq_false hc3] at w3
      rw [if_neg (fun k => k.elim (fun k => Bool.noConfusion k) (fun k => hc3 k.2.1)), if_pos hw]
      repeat (conv => whnf); first | refine br_tt ?_ | refine br_ff ?_ | refine ⟨_, c1, ?_⟩ | refine ⟨_, c2, ?_⟩ | refine ⟨_, c3, ?_⟩ | refine ⟨_, k1, ?_⟩ | refine ⟨_, k2, ?_⟩ | refine ⟨_, k3, ?_⟩ | refine ⟨_, n1, ?_⟩ | refine ⟨_, n2, ?_⟩ | refine ⟨_, n3, ?_⟩ | refine ⟨_, i1, ?_⟩ | refine ⟨_, i2, ?_⟩ | refine br_f z1 ?_ | refine br_t x3 ?_ | refine br_f x3 ?_ | refine br_t x0 ?_ | refine br_f x0 ?_ | refine br_t y3 ?_ | refine br_f y3 ?_ | refine br_t y0 ?_ | refine br_f y0 ?_ | refine br_t w3 ?_ | refine br_f w3 ?_ | refine And.intro (by kernel_rfl) ?_ | refine And.intro (by decide) ?_
      rfl
  rw [decide_eq_false b3] at y3
  have hw : ¬ (f.cl a = 3 ∨ f.cl b = 3) := by omega
  rw [if_neg (fun k => k.elim (fun k => Bool.noConfusion k) (fun k => hw k.1)), if_neg hw]
  by_cases hc3 : f.cl c = 3
  · rw [decide_eq_true hc3] at w3
    rw [if_pos hc3]
    repeat (conv => whnf); first | refine br_tt ?_ | refine br_ff ?_ | refine ⟨_, c1, ?_⟩ | refine ⟨_, c2, ?_⟩ | refine ⟨_, c3, ?_⟩ | refine ⟨_, k1, ?_⟩ | refine ⟨_, k2, ?_⟩ | refine ⟨_, k3, ?_⟩ | refine ⟨_, n1, ?_⟩ | refine ⟨_, n2, ?_⟩ | refine ⟨_, n3, ?_⟩ | refine ⟨_, i1, ?_⟩ | refine ⟨_, i2, ?_⟩ | refine br_f z1 ?_ | refine br_t x3 ?_ | refine br_f x3 ?_ | refine br_t x0 ?_ | refine br_f x0 ?_ | refine br_t y3 ?_ | refine br_f y3 ?_ | refine br_t y0 ?_ | refine br_f y0 ?_ | refine br_t w3 ?_ | refine br_f w3 ?_ | refine And.intro (by kernel_rfl) ?_ | refine And.intro (by decide) ?_
    rfl
  rw [decide_eq_false hc3] at w3
  rw [if_neg hc3]
  by_cases hp : (Dy.mul (f.val a).1 (f.val b).1).1.n = 0
  case neg =>
    rw [decide_eq_false hp] at u1
    rw [if_neg (fun k => hp k.1)]
    repeat (conv => whnf); first | refine br_tt ?_ | refine br_ff ?_ | refine ⟨_, c1, ?_⟩ | refine ⟨_, c2, ?_⟩ | refine ⟨_, c3, ?_⟩ | refine ⟨_, k1, ?_⟩ | refine ⟨_, k2, ?_⟩ | refine ⟨_, k3, ?_⟩ | refine ⟨_, n1, ?_⟩ | refine ⟨_, n2, ?_⟩ | refine ⟨_, n3, ?_⟩ | refine ⟨_, i1, ?_⟩ | refine ⟨_, i2, ?_⟩ | refine ⟨_, d1, ?_⟩ | refine ⟨_, d2, ?_⟩ | refine ⟨_, d3, ?_⟩ | refine ⟨_, d4, ?_⟩ | refine ⟨_, d5, ?_⟩ | refine ⟨_, e1, ?_⟩ | refine ⟨_, e2, ?_⟩ | refine br_f z1 ?_ | refine br_t x3 ?_ | refine br_f x3 ?_ | refine br_t x0 ?_ | refine br_f x0 ?_ | refine br_t y3 ?_ | refine br_f y3 ?_ | refine br_t y0 ?_ | refine br_f y0 ?_ | refine br_t w3 ?_ | refine br_f w3 ?_ | refine br_f u1 ?_ | refine And.intro (by kernel_rfl) ?_ | refine And.intro (by decide) ?_
    rfl
  rw [decide_eq_true hp] at u1
  by_cases hz0 : (f.val c).1.n = 0
  case neg =>
    rw [decide_eq_false hz0] at u2
    rw [if_neg (fun k => hz0 k.2.1)]
    repeat (conv => whnf); first | refine br_tt ?_ | refine br_ff ?_ | refine ⟨_, c1, ?_⟩ | refine ⟨_, c2, ?_⟩ | refine ⟨_, c3, ?_⟩ | refine ⟨_, k1, ?_⟩ | refine ⟨_, k2, ?_⟩ | refine ⟨_, k3, ?_⟩ | refine ⟨_, n1, ?_⟩ | refine ⟨_, n2, ?_⟩ | refine ⟨_, n3, ?_⟩ | refine ⟨_, i1, ?_⟩ | refine ⟨_, i2, ?_⟩ | refine ⟨_, d1, ?_⟩ | refine ⟨_, d2, ?_⟩ | refine ⟨_, d3, ?_⟩ | refine ⟨_, d4, ?_⟩ | refine ⟨_, d5, ?_⟩ | refine ⟨_, e1, ?_⟩ | refine ⟨_, e2, ?_⟩ | refine br_f z1 ?_ | refine br_t x3 ?_ | refine br_f x3 ?_ | refine br_t x0 ?_ | refine br_f x0 ?_ | refine br_t y3 ?_ | refine br_f y3 ?_ | refine br_t y0 ?_ | refine br_f y0 ?_ | refine br_t w3 ?_ | refine br_f w3 ?_ | refine br_t u1 ?_ | refine br_f u2 ?_ | refine And.intro (by kernel_rfl) ?_ | refine And.intro (by decide) ?_
    rfl
  rw [decide_eq_true hz0] at u2
  by_cases hs : f.sn c = (f.sn a != f.sn b)
  · have zs : (f.sn c == (!(f.sn a == f.sn b))) = true := by rw [hs]; cases f.sn a <;> cases f.sn b <;> rfl
    rw [if_pos ⟨hp, hz0, hs⟩]
    repeat (conv => whnf); first | refine br_tt ?_ | refine br_ff ?_ | refine ⟨_, c1, ?_⟩ | refine ⟨_, c2, ?_⟩ | refine ⟨_, c3, ?_⟩ | refine ⟨_, k1, ?_⟩ | refine ⟨_, k2, ?_⟩ | refine ⟨_, k3, ?_⟩ | refine ⟨_, n1, ?_⟩ | refine ⟨_, n2, ?_⟩ | refine ⟨_, n3, ?_⟩ | refine ⟨_, i1, ?_⟩ | refine ⟨_, i2, ?_⟩ | refine ⟨_, d1, ?_⟩ | refine ⟨_, d2, ?_⟩ | refine ⟨_, d3, ?_⟩ | refine ⟨_, d4, ?_⟩ | refine ⟨_, d5, ?_⟩ | refine ⟨_, e1, ?_⟩ | refine ⟨_, e2, ?_⟩ | refine br_f z1 ?_ | refine br_t x3 ?_ | refine br_f x3 ?_ | refine br_t x0 ?_ | refine br_f x0 ?_ | refine br_t y3 ?_ | refine br_f y3 ?_ | refine br_t y0 ?_ | refine br_f y0 ?_ | refine br_t w3 ?_ | refine br_f w3 ?_ | refine br_t u1 ?_ | refine br_t u2 ?_ | refine br_t zs ?_ | refine And.intro (by kernel_rfl) ?_ | refine And.intro (by decide) ?_
    rfl
  · have zs : (f.sn c == (!(f.sn a == f.sn b))) = false := by revert hs; cases f.sn a <;> cases f.sn b <;> cases f.sn c <;> simp
    rw [if_neg (fun k => hs k.2.2)]
    repeat (conv => whnf); first | refine br_tt ?_ | refine br_ff ?_ | refine ⟨_, c1, ?_⟩ | refine ⟨_, c2, ?_⟩ | refine ⟨_, c3, ?_⟩ | refine ⟨_, k1, ?_⟩ | refine ⟨_, k2, ?_⟩ | refine ⟨_, k3, ?_⟩ | refine ⟨_, n1, ?_⟩ | refine ⟨_, n2, ?_⟩ | refine ⟨_, n3, ?_⟩ | refine ⟨_, i1, ?_⟩ | refine ⟨_, i2, ?_⟩ | refine ⟨_, d1, ?_⟩ | refine ⟨_, d2, ?_⟩ | refine ⟨_, d3, ?_⟩ | refine ⟨_, d4, ?_⟩ | refine ⟨_, d5, ?_⟩ | refine ⟨_, e1, ?_⟩ | refine ⟨_, e2, ?_⟩ | refine br_f z1 ?_ | refine br_t x3 ?_ | refine br_f x3 ?_ | refine br_t x0 ?_ | refine br_f x0 ?_ | refine br_t y3 ?_ | refine br_f y3 ?_ | refine br_t y0 ?_ | refine br_f y0 ?_ | refine br_t w3 ?_ | refine br_f w3 ?_ | refine br_t u1 ?_ | refine br_t u2 ?_ | refine br_f zs ?_ | refine And.intro (by kernel_rfl) ?_ | refine And.intro (by decide) ?_
    rfl
theorem radd5_snd (mode : Int) {a b : Nat} (ha : a < 2 ^ 64) (hb : b < 2 ^ 64) : Snd Tryz.prog 8 [.g (fmA f), .a (iA mode), .a (uA a), .a (uA b)] (tA (f.addR mode a b)) := by
  have c1 := rone_snd h
  have c2 := rfma_snd h mode ha (Fm.lt64 h (Fm.one_facts h).1) hb
  rw [← Fm.fma_one h] at c2
  refine snd_of ttOk mixed Tryz.func8 Tryz.ntmps8 rfl (by kernel_rfl) rfl ?_
  repeat (conv => whnf); first | refine br_tt ?_ | refine br_ff ?_ | refine ⟨_, c1, ?_⟩ | refine ⟨_, c2, ?_⟩ | refine And.intro (by kernel_rfl) ?_ | refine And.intro (by decide) ?_
  rfl
theorem rmul5_snd (mode : Int) {a b : Nat} (ha : a < 2 ^ 64) (hb : b < 2 ^ 64) : Snd Tryz.prog 12 [.g (fmA f), .a (iA mode), .a (uA a), .a (uA b)] (tA (f.mulR mode a b)) := by
  have c1 := rneg_snd h ha
  have c2 := rneg_snd h hb
  have c3 := rbld_snd h (neg := (!(f.sn a == f.sn b))) (e := 0) (x := 0) (Nat.two_pow_pos _) (Nat.two_pow_pos _)
  have c4 := rfma_snd h mode ha hb (Fm.lt64 h (Fm.zero_bits h (f.sn a != f.sn b)).1)
  rw [← Fm.fma_zero h] at c4
  refine snd_of ttOk mixed Tryz.func12 Tryz.ntmps12 rfl (by kernel_rfl) rfl ?_
  repeat (conv => whnf); first | refine br_tt ?_ | refine br_ff ?_ | refine ⟨_, c1, ?_⟩ | refine ⟨_, c2, ?_⟩ | refine ⟨_, c3, ?_⟩ | refine ⟨_, c4, ?_⟩ | refine And.intro (by kernel_rfl) ?_ | refine And.intro (by decide) ?_
  rfl
theorem rsub5_snd (mode : Int) {a b : Nat} (ha : a < 2 ^ 64) (hb : b < 2 ^ 64) : Snd Tryz.prog 10 [.g (fmA f), .a (iA mode), .a (uA a), .a (uA b)] (tA (f.subR mode a b)) := by
  have c1 := rwrong2_snd h mode ha hb
  have c2 := rcl_snd h hb
  have c3 := rturned5_snd h hb
  have c4 := radd5_snd h mode ha (Fm.lt64 h (trn_lt h (a := b)))
  have c5 := radd5_snd h mode ha hb
  have z4 : decide (((f.cl b : Nat) : Int) < 4) = decide (f.cl b < 4) := decide_eq_decide.2 (by omega)
  rw [Fm.sub_add h]
  refine snd_of ttOk mixed Tryz.func10 Tryz.ntmps10 rfl (by kernel_rfl) rfl ?_
  by_cases hm : f.mayE mode [a, b] = 0
  · have z1 : (f.mayE mode [a, b] == 0) = true := by rw [hm]; rfl
    by_cases h4 : f.cl b < 4
    · rw [decide_eq_true h4] at z4
      rw [if_pos ⟨hm, h4⟩]
      repeat (conv => whnf); first | refine br_tt ?_ | refine br_ff ?_ | refine ⟨_, c1, ?_⟩ | refine ⟨_, c2, ?_⟩ | refine ⟨_, c3, ?_⟩ | refine ⟨_, c4, ?_⟩ | refine br_t z1 ?_ | refine br_t z4 ?_ | refine And.intro (by kernel_rfl) ?_ | refine And.intro (by decide) ?_
      rfl
    · rw [decide_eq_false h4] at z4
      rw [if_neg (fun k => h4 k.2)]
      repeat (conv => whnf); first | refine br_tt ?_ | refine br_ff ?_ | refine ⟨_, c1, ?_⟩ | refine ⟨_, c2, ?_⟩ | refine ⟨_, c3, ?_⟩ | refine ⟨_, c5, ?_⟩ | refine br_t z1 ?_ | refine br_f z4 ?_ | refine And.intro (by kernel_rfl) ?_ | refine And.intro (by decide) ?_
      rfl
  · have z1 : (f.mayE mode [a, b] == 0) = false := by rw [beq_eq_false_iff_ne]; exact hm
    rw [if_neg (fun k => hm k.1)]
    repeat (conv => whnf); first | refine br_tt ?_ | refine br_ff ?_ | refine ⟨_, c1, ?_⟩ | refine ⟨_, c2, ?_⟩ | refine ⟨_, c3, ?_⟩ | refine ⟨_, c5, ?_⟩ | refine br_f z1 ?_ | refine And.intro (by kernel_rfl) ?_ | refine And.intro (by decide) ?_
    rfl
end
theorem ieeeTells_law (bits mode x y z : Int) (hbits : (Lit.int .i64 bits).wf = true) (hmode : (Lit.int .i64 mode).wf = true) (hx : (Lit.int .u64 x).wf = true) (hy : (Lit.int .u64 y).wf = true) (hz : (Lit.int .u64 z).wf = true) :
    Snd Tryz.prog 3 [.a (iA bits), .a (iA mode), .a (.i .u64 x), .a (.i .u64 y), .a (.i .u64 z)] (.a (.b true)) := by
  obtain ⟨a, rfl, ha⟩ := u64_nat hx
  obtain ⟨b, rfl, hb⟩ := u64_nat hy
  obtain ⟨c, rfl, hc⟩ := u64_nat hz
  have o1 := fof_snd bits
  have o2 := rof3_snd bits
  refine snd_of ttOk mixed Tryz.func3 Tryz.ntmps3 rfl (by kernel_rfl) rfl ?_
  cases hf : fmOf bits with
  | none =>
    rw [hf] at o1 o2
    have hnb : bits ≠ 16 ∧ bits ≠ 32 ∧ bits ≠ 64 := by
      unfold fmOf at hf
      refine ⟨?_, ?_, ?_⟩ <;> intro e <;> subst e <;> simp at hf
    have y1 : (bits != 16) = true := by simpa using hnb.1
    have y2 : (bits != 32) = true := by simpa using hnb.2.1
    have y3 : (bits != 64) = true := by simpa using hnb.2.2
    repeat (conv => whnf); first | refine br_tt ?_ | refine br_ff ?_ | refine ⟨_, awake5_snd, ?_⟩ | refine ⟨_, o1, ?_⟩ | refine ⟨_, o2, ?_⟩ | refine br_t y1 ?_ | refine br_t y2 ?_ | refine br_t y3 ?_ | refine And.intro (by kernel_rfl) ?_ | refine And.intro (by decide) ?_
    show AV.a (.b (bits != 64)) = _
    rw [y3]
  | some f =>
  rw [hf] at o1 o2
  obtain ⟨h, hbt⟩ := fmOf_ok hf
  have d1 := iadd_snd h mode ha hb
  have d2 := radd5_snd h mode ha hb
  have d3 := isub_snd h mode ha hb
  have d4 := rsub5_snd h mode ha hb
  have d5 := imul_snd h mode ha hb
  have d6 := rmul5_snd h mode ha hb
  have d7 := ifma_snd h mode ha hb hc
  have d8 := rfma_snd h mode ha hb hc
  have d9 := turned5_snd h ha
  have e1 := rturned5_snd h ha
  generalize f.addR mode a b = r1 at *
  generalize f.subR mode a b = r2 at *
  generalize f.mulR mode a b = r3 at *
  generalize f.fmaR mode a b c = r4 at *
  have y1 := bneq_self ((r1.1 : Nat) : Int)
  have y2 := bneq_self r1.2.1
  have y3 := bneq_self r1.2.2
  have y4 := bneq_self ((r2.1 : Nat) : Int)
  have y5 := bneq_self r2.2.1
  have y6 := bneq_self r2.2.2
  have y7 := bneq_self ((r3.1 : Nat) : Int)
  have y8 := bneq_self r3.2.1
  have y9 := bneq_self r3.2.2
  repeat (conv => whnf); first | refine br_tt ?_ | refine br_ff ?_ | refine ⟨_, awake5_snd, ?_⟩ | refine ⟨_, o1, ?_⟩ | refine ⟨_, o2, ?_⟩ | refine ⟨_, d1, ?_⟩ | refine ⟨_, d2, ?_⟩ | refine ⟨_, d3, ?_⟩ | refine ⟨_, d4, ?_⟩ | refine ⟨_, d5, ?_⟩ | refine ⟨_, d6, ?_⟩ | refine ⟨_, d7, ?_⟩ | refine ⟨_, d8, ?_⟩ | refine ⟨_, d9, ?_⟩ | refine ⟨_, e1, ?_⟩ | refine br_f y1 ?_ | refine br_f y2 ?_ | refine br_f y3 ?_ | refine br_f y4 ?_ | refine br_f y5 ?_ | refine br_f y6 ?_ | refine br_f y7 ?_ | refine br_f y8 ?_ | refine br_f y9 ?_ | refine br_t (beq_self_eq_true _) ?_ | refine And.intro (by kernel_rfl) ?_ | refine And.intro (by decide) ?_
  show AV.a (.b (((f.trn a : Nat) : Int) == ((f.trn a : Nat) : Int))) = _
  rw [beq_self_eq_true]
end Go.Proofs.YtlaffgojgfdlnaaGreat.A
