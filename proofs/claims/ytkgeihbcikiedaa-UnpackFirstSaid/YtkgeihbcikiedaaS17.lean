/- The contracts of format's and of reference 3's functions that are used here, for all bits of the three formats. -/
import Derived.Test.YtkgeihbcikiedaaS6
import Derived.Test.YtkgeihbcikiedaaN42
import Derived.Test.YtkgeihbcikiedaaPx0
import Derived.Test.YtkgeihbcikiedaaPx1
import Derived.Test.YtkgeihbcikiedaaPx11
set_option linter.unusedVariables false
set_option linter.unusedSimpArgs false
set_option linter.constructorNameAsVariable false
set_option linter.unusedSectionVars false
set_option maxRecDepth 100000
set_option maxHeartbeats 4000000
namespace Go.Proofs.Ytkgeihbcikiedaa.A
open Go.RowKit Go.Proofs.Ytkgeihbcikiedaa.P Go.Proofs.YtkgeihbcikiedaaW.PrintWords Go.Proofs.YtkgeihbcikiedaaW.PrintMore Go.Proofs.Ytkgeihbcikiedaa.N Sk Dy
abbrev fmA (f : Fm) : List AA := [iA ((f.p + f.w : Nat) : Int), iA (f.p : Int), iA (f.w : Int)]
abbrev uA (n : Nat) : AA := .i .u64 (n : Int)
theorem Fa (m n : Nat) : ((m : Int) == (n : Int)) = decide (m = n) := by
 by_cases h : m = n
 ·subst h; simp
 ·rw [decide_eq_false h, beq_eq_false_iff_ne]; omega
section
variable {f : Fm} (h : f.ok)
include h
theorem acb : IntKind.wrap .i64 ((f.p : Int) - 1) = ((f.p - 1 : Nat) : Int) := by have := Fm.bounds h; rw [wI (by omega) (by omega)]; omega
theorem acd : IntKind.wrap .i64 ((f.p : Int) - 2) = ((f.p - 2 : Nat) : Int) := by have := Fm.bounds h; rw [wI (by omega) (by omega)]; omega
theorem ace : IntKind.wrap .i64 (((f.p + f.w : Nat) : Int) - 1) = ((f.p + f.w - 1 : Nat) : Int) := by have := Fm.bounds h; rw [wI (by omega) (by omega)]; omega
end
end Go.Proofs.Ytkgeihbcikiedaa.A
set_option linter.unusedVariables false
set_option linter.unusedSimpArgs false
set_option linter.constructorNameAsVariable false
set_option linter.unusedSectionVars false
set_option maxRecDepth 100000
set_option maxHeartbeats 4000000
namespace Go.Proofs.Ytkgeihbcikiedaa.A
open Go.RowKit Go.Proofs.Ytkgeihbcikiedaa.P Go.Proofs.YtkgeihbcikiedaaW.PrintWords Go.Proofs.YtkgeihbcikiedaaW.PrintMore Go.Proofs.Ytkgeihbcikiedaa.N Sk Dy
section
variable {f : Fm} (h : f.ok)
include h
theorem OY {neg : Bool} {e x : Nat} (he : e < 2 ^ f.w) (hx : x < 2 ^ (f.p - 1)) : f.bld neg e x < 2 ^ 64 := Nat.lt_of_lt_of_le (Fm.qP h he hx) (Nat.pow_le_pow_right (by omega) (Fm.bounds h).2.2.2.2.1)
end
end Go.Proofs.Ytkgeihbcikiedaa.A
set_option linter.unusedVariables false
set_option linter.unusedSimpArgs false
set_option linter.constructorNameAsVariable false
set_option linter.unusedSectionVars false
set_option maxRecDepth 100000
set_option maxHeartbeats 4000000
namespace Go.Proofs.Ytkgeihbcikiedaa.A
open Go.RowKit Go.Proofs.Ytkgeihbcikiedaa.P Go.Proofs.YtkgeihbcikiedaaW.PrintWords Go.Proofs.YtkgeihbcikiedaaW.PrintMore Go.Proofs.Ytkgeihbcikiedaa.N Sk Dy
def vX (bits : Int) : Option Fm := if bits = 16 then some ⟨11, 5⟩ else if bits = 32 then some ⟨24, 8⟩ else if bits = 64 then some ⟨53, 11⟩ else none
theorem KD {bits : Int} {f : Fm} (h : vX bits = some f) : f.ok ∧ bits = ((f.p + f.w : Nat) : Int) := by
 unfold vX at h
 split at h
 ·cases h; exact ⟨.inl rfl, by assumption⟩
 split at h
 ·cases h; exact ⟨.inr (.inl rfl), by assumption⟩
 split at h
 ·cases h; exact ⟨.inr (.inr rfl), by assumption⟩
 ·cases h
abbrev ofA (r : Option Fm) : AV := match r with
 | some f => .t [.g (fmA f), .a (iA 0)]
 | none => .t [.g [iA 0, iA 0, iA 0], .a (iA 1)]
theorem ul : Snd Try.prog 63 [] (.g [iA 16, iA 11, iA 5, iA 32, iA 24, iA 8, iA 64, iA 53, iA 11]) := by
 refine jl oI mixed Try.func63 Try.ntmps63 rfl (by kernel_rfl) rfl ?_
 repeat (conv => whnf); first | refine fH ?_ | refine fI ?_ | refine And.intro (by kernel_rfl) ?_ | refine And.intro (by decide) ?_
 rfl
theorem De (bits : Int) : Snd Try.prog 32 [.a (iA bits)] (ofA (vX bits)) := by
 refine jl oI mixed Try.func32 Try.ntmps32 rfl (by kernel_rfl) rfl ?_; unfold vX
 by_cases h1 : bits = 16
 ·subst h1
  repeat (conv => whnf); first | refine ⟨5, ?_⟩ | refine fH ?_ | refine fI ?_ | refine ⟨_, ul, ?_⟩ | refine And.intro (by kernel_rfl) ?_ | refine And.intro (by decide) ?_
  rfl
 have z1 : ((16 : Int) == bits) = false := by rw [beq_eq_false_iff_ne]; omega
 rw [if_neg h1]
 by_cases h2 : bits = 32
 ·subst h2
  repeat (conv => whnf); first | refine ⟨5, ?_⟩ | refine fH ?_ | refine fI ?_ | refine ⟨_, ul, ?_⟩ | refine And.intro (by kernel_rfl) ?_ | refine And.intro (by decide) ?_
  rfl
 have z2 : ((32 : Int) == bits) = false := by rw [beq_eq_false_iff_ne]; omega
 rw [if_neg h2]
 by_cases h3 : bits = 64
 ·subst h3
  repeat (conv => whnf); first | refine ⟨5, ?_⟩ | refine fH ?_ | refine fI ?_ | refine ⟨_, ul, ?_⟩ | refine And.intro (by kernel_rfl) ?_ | refine And.intro (by decide) ?_
  rfl
 have z3 : ((64 : Int) == bits) = false := by rw [beq_eq_false_iff_ne]; omega
 rw [if_neg h3]
 repeat (conv => whnf); first | refine ⟨5, ?_⟩ | refine fH ?_ | refine fI ?_ | refine ⟨_, ul, ?_⟩ | refine iL z1 ?_ | refine iL z2 ?_ | refine iL z3 ?_ | refine And.intro (by kernel_rfl) ?_ | refine And.intro (by decide) ?_
 rfl
theorem Fb (bits : Int) : Snd Try.prog 33 [.a (iA bits)] (ofA (vX bits)) := by
 refine jl oI mixed Try.func33 Try.ntmps33 rfl (by kernel_rfl) rfl ?_; unfold vX
 by_cases h1 : bits = 16
 ·subst h1
  repeat (conv => whnf); first | refine fH ?_ | refine fI ?_ | refine And.intro (by kernel_rfl) ?_ | refine And.intro (by decide) ?_
  rfl
 have z1 : (bits == (16 : Int)) = false := by rw [beq_eq_false_iff_ne]; omega
 rw [if_neg h1]
 by_cases h2 : bits = 32
 ·subst h2
  repeat (conv => whnf); first | refine fH ?_ | refine fI ?_ | refine And.intro (by kernel_rfl) ?_ | refine And.intro (by decide) ?_
  rfl
 have z2 : (bits == (32 : Int)) = false := by rw [beq_eq_false_iff_ne]; omega
 rw [if_neg h2]
 by_cases h3 : bits = 64
 ·subst h3
  repeat (conv => whnf); first | refine fH ?_ | refine fI ?_ | refine And.intro (by kernel_rfl) ?_ | refine And.intro (by decide) ?_
  rfl
 have z3 : (bits == (64 : Int)) = false := by rw [beq_eq_false_iff_ne]; omega
 rw [if_neg h3]
 repeat (conv => whnf); first | refine fH ?_ | refine fI ?_ | refine iL z1 ?_ | refine iL z2 ?_ | refine iL z3 ?_ | refine And.intro (by kernel_rfl) ?_ | refine And.intro (by decide) ?_
 rfl
theorem rM {k : Nat} (hk : k ∈ [4, 5, 7, 8, 9, 10, 11, 15, 22, 23, 31, 51, 52, 63]) : Snd Try.prog 52 [.a (iA k)] (.a (uA (2 ^ k))) := by
 refine jl oI mixed Try.func52 Try.ntmps52 rfl (by kernel_rfl) rfl ?_; simp only [List.mem_cons, List.not_mem_nil, or_false] at hk
 rcases hk with rfl | rfl | rfl | rfl | rfl | rfl | rfl | rfl | rfl | rfl | rfl | rfl | rfl | rfl
 all_goals
  repeat (conv => whnf); first | refine ⟨70, ?_⟩ | refine fH ?_ | refine fI ?_ | refine And.intro (by kernel_rfl) ?_ | refine And.intro (by decide) ?_
  rfl
theorem OZ (m n : Nat) : Int.tmod (m : Int) (n : Int) = ((m % n : Nat) : Int) := rfl
theorem acf {m n : Nat} (hm : m < 2 ^ 64) : IntKind.wrap .u64 (Int.tdiv (m : Int) (n : Int)) = ((m / n : Nat) : Int) := by
 rw [show Int.tdiv (m : Int) (n : Int) = ((m / n : Nat) : Int) from rfl]; have := Nat.div_le_self m n; generalize m / n = q at *; exact wU (by omega) (by omega)
section
variable {f : Fm} (h : f.ok)
include h
theorem Wl : Snd Try.prog 52 [.a (iA (IntKind.wrap .i64 ((f.p : Int) - 1)))] (.a (uA (2 ^ (f.p - 1)))) := by
 rw [acb h]; exact rM (by rcases h with rfl | rfl | rfl <;> decide)
theorem Wm : Snd Try.prog 52 [.a (iA (IntKind.wrap .i64 ((f.p : Int) - 2)))] (.a (uA (2 ^ (f.p - 2)))) := by
 rw [acd h]; exact rM (by rcases h with rfl | rfl | rfl <;> decide)
theorem acg : Snd Try.prog 52 [.a (iA (f.w : Int))] (.a (uA (2 ^ f.w))) := rM (by rcases h with rfl | rfl | rfl <;> decide)
theorem ach : Snd Try.prog 52 [.a (iA (IntKind.wrap .i64 (((f.p + f.w : Nat) : Int) - 1)))] (.a (uA (2 ^ (f.p + f.w - 1)))) := by
 rw [ace h]; exact rM (by rcases h with rfl | rfl | rfl <;> decide)
def sb (f : Fm) (b : Nat) : Nat := b / 2 ^ (f.p - 1) / 2 ^ f.w % 2
omit h in
theorem O0 (k : Nat) : ((2 ^ k : Nat) : Int) ≠ 0 := by have := Nat.two_pow_pos k; omega
theorem kw {b : Nat} (hb : b < 2 ^ 64) : Snd Try.prog 24 [.g (fmA f), .a (uA b)] (.t [.a (uA (sb f b)), .a (uA (f.ex b)), .a (uA (f.fr b)), .a (.b (decide (2 ^ (f.p + f.w) ≤ b)))]) := by
 have hB := Fm.bounds h; have c1 := Wl h; have c2 := acg h; have n1 := O0 (f.p - 1); have n2 := O0 f.w; refine jl oI mixed Try.func24 Try.ntmps24 rfl (by kernel_rfl) rfl ?_
 repeat (conv => whnf); first | refine fH ?_ | refine fI ?_ | refine ⟨_, c1, ?_⟩ | refine ⟨_, c2, ?_⟩ | refine And.intro n1 ?_ | refine And.intro n2 ?_ | refine And.intro (by kernel_rfl) ?_ | refine And.intro (by decide) ?_
 show AV.t [.a (.i .u64 (Int.tmod (IntKind.wrap .u64 (Int.tdiv (IntKind.wrap .u64 (Int.tdiv (b : Int) ((2 ^ (f.p - 1) : Nat) : Int))) ((2 ^ f.w : Nat) : Int))) ((2 : Nat) : Int))), .a (.i .u64 (Int.tmod (IntKind.wrap .u64 (Int.tdiv (b : Int) ((2 ^ (f.p - 1) : Nat) : Int))) ((2 ^ f.w : Nat) : Int))), .a (.i .u64 (Int.tmod (b : Int) ((2 ^ (f.p - 1) : Nat) : Int))), .a (.b (decide (IntKind.wrap .u64 (Int.tdiv (IntKind.wrap .u64 (Int.tdiv (b : Int) ((2 ^ (f.p - 1) : Nat) : Int))) ((2 ^ f.w : Nat) : Int)) > ((1 : Nat) : Int))))] = _; rw [acf hb, acf (Nat.lt_of_le_of_lt (Nat.div_le_self _ _) hb), OZ, OZ, OZ]
 have e : decide (((b / 2 ^ (f.p - 1) / 2 ^ f.w : Nat) : Int) > ((1 : Nat) : Int)) = decide (2 ^ (f.p + f.w) ≤ b) := by
  refine decide_eq_decide.2 ?_
  rcases h with rfl | rfl | rfl <;> simp only [Nat.reduceSub, Nat.reduceAdd, Nat.reducePow] <;> omega
 rw [e]; rfl
theorem aci (b : Nat) : ((sb f b : Nat) : Int) = 1 ↔ f.sn b = true := by
 unfold sb Fm.sn; rw [decide_eq_true_eq]
 rcases h with rfl | rfl | rfl <;> simp only [Nat.reduceSub, Nat.reduceAdd, Nat.reducePow] <;> omega
theorem Wn (b : Nat) : (((sb f b : Nat) : Int) == 1) = f.sn b := by
 have := aci h b; cases hs : f.sn b
 ·rw [beq_eq_false_iff_ne]; intro e; rw [this.1 e] at hs; cases hs
 ·rw [beq_iff_eq]; exact this.2 hs
theorem jX {b : Nat} (hb : b < 2 ^ 64) : Snd Try.prog 35 [.g (fmA f), .a (uA b)] (.a (iA (f.cl b))) := by
 have hB := Fm.bounds h; have c1 := kw h hb; have c2 := acg h; have c3 := Wm h; have z1 := Fa (f.ex b) 0; have z2 := Fa (f.fr b) 0; have hp : 0 < 2 ^ f.w := Nat.two_pow_pos _
 have hfull : IntKind.wrap .u64 (((2 ^ f.w : Nat) : Int) - 1) = ((2 ^ f.w - 1 : Nat) : Int) := by rw [wU (by omega) (by omega)]; omega
 have z3 : decide (((f.ex b : Nat) : Int) < IntKind.wrap .u64 (((2 ^ f.w : Nat) : Int) - 1)) = decide (f.ex b < 2 ^ f.w - 1) := by rw [hfull]; exact decide_eq_decide.2 (by omega)
 have z4 : decide (((f.fr b : Nat) : Int) ≥ ((2 ^ (f.p - 2) : Nat) : Int)) = decide (2 ^ (f.p - 2) ≤ f.fr b) := decide_eq_decide.2 (by omega); refine jl oI mixed Try.func35 Try.ntmps35 rfl (by kernel_rfl) rfl ?_
 by_cases h1 : f.ex b = 0
 ·rw [decide_eq_true h1] at z1
  by_cases h2 : f.fr b = 0
  ·rw [decide_eq_true h2] at z2; rw [show f.cl b = 0 by unfold Fm.cl; rw [if_pos h1, if_pos h2]]
   repeat (conv => whnf); first | refine fH ?_ | refine fI ?_ | refine ⟨_, c1, ?_⟩ | refine ⟨_, c2, ?_⟩ | refine ⟨_, c3, ?_⟩ | refine oJ z1 ?_ | refine oJ z2 ?_ | refine And.intro (by kernel_rfl) ?_ | refine And.intro (by decide) ?_
   rfl
  ·rw [decide_eq_false h2] at z2; rw [show f.cl b = 1 by unfold Fm.cl; rw [if_pos h1, if_neg h2]]
   repeat (conv => whnf); first | refine fH ?_ | refine fI ?_ | refine ⟨_, c1, ?_⟩ | refine ⟨_, c2, ?_⟩ | refine ⟨_, c3, ?_⟩ | refine oJ z1 ?_ | refine iL z2 ?_ | refine And.intro (by kernel_rfl) ?_ | refine And.intro (by decide) ?_
   rfl
 rw [decide_eq_false h1] at z1
 by_cases h3 : f.ex b < 2 ^ f.w - 1
 ·rw [decide_eq_true h3] at z3; rw [show f.cl b = 2 by unfold Fm.cl; rw [if_neg h1, if_pos h3]]
  repeat (conv => whnf); first | refine fH ?_ | refine fI ?_ | refine ⟨_, c1, ?_⟩ | refine ⟨_, c2, ?_⟩ | refine ⟨_, c3, ?_⟩ | refine iL z1 ?_ | refine oJ z3 ?_ | refine And.intro (by kernel_rfl) ?_ | refine And.intro (by decide) ?_
  rfl
 rw [decide_eq_false h3] at z3
 by_cases h2 : f.fr b = 0
 ·rw [decide_eq_true h2] at z2; rw [show f.cl b = 3 by unfold Fm.cl; rw [if_neg h1, if_neg h3, if_pos h2]]
  repeat (conv => whnf); first | refine fH ?_ | refine fI ?_ | refine ⟨_, c1, ?_⟩ | refine ⟨_, c2, ?_⟩ | refine ⟨_, c3, ?_⟩ | refine iL z1 ?_ | refine iL z3 ?_ | refine oJ z2 ?_ | refine And.intro (by kernel_rfl) ?_ | refine And.intro (by decide) ?_
  rfl
 rw [decide_eq_false h2] at z2
 by_cases h4 : 2 ^ (f.p - 2) ≤ f.fr b
 ·rw [decide_eq_true h4] at z4; rw [show f.cl b = 4 by unfold Fm.cl; rw [if_neg h1, if_neg h3, if_neg h2, if_pos h4]]
  repeat (conv => whnf); first | refine fH ?_ | refine fI ?_ | refine ⟨_, c1, ?_⟩ | refine ⟨_, c2, ?_⟩ | refine ⟨_, c3, ?_⟩ | refine iL z1 ?_ | refine iL z3 ?_ | refine iL z2 ?_ | refine oJ z4 ?_ | refine And.intro (by kernel_rfl) ?_ | refine And.intro (by decide) ?_
  rfl
 ·rw [decide_eq_false h4] at z4; rw [show f.cl b = 5 by unfold Fm.cl; rw [if_neg h1, if_neg h3, if_neg h2, if_neg h4]]
  repeat (conv => whnf); first | refine fH ?_ | refine fI ?_ | refine ⟨_, c1, ?_⟩ | refine ⟨_, c2, ?_⟩ | refine ⟨_, c3, ?_⟩ | refine iL z1 ?_ | refine iL z3 ?_ | refine iL z2 ?_ | refine iL z4 ?_ | refine And.intro (by kernel_rfl) ?_ | refine And.intro (by decide) ?_
  rfl
theorem y7 {neg : Bool} {e x : Nat} (he : e < 2 ^ f.w) (hx : x < 2 ^ (f.p - 1)) : Snd Try.prog 26 [.g (fmA f), .a (.b neg), .a (uA e), .a (uA x)] (.a (uA (f.bld neg e x))) := by
 have hB := Fm.bounds h; have c1 := Wl h; have c2 := ach h; have l := OY h (neg := neg) he hx
 have e1 : f.bld false e x = e * 2 ^ (f.p - 1) + x := by unfold Fm.bld; simp
 have l1 : f.bld false e x ≤ f.bld neg e x := by unfold Fm.bld; simp
 rw [e1] at l1
 have e2 : f.bld true e x = e * 2 ^ (f.p - 1) + x + 2 ^ (f.p + f.w - 1) := by unfold Fm.bld; rw [if_pos rfl]
 generalize hM : e * 2 ^ (f.p - 1) = M at e1 e2 l1
 have w1 : IntKind.wrap .u64 (((e : Nat) : Int) * ((2 ^ (f.p - 1) : Nat) : Int)) = ((M : Nat) : Int) := by rw [← Int.natCast_mul, hM]; exact wU (by omega) (by omega)
 have w2 : IntKind.wrap .u64 (IntKind.wrap .u64 (((e : Nat) : Int) * ((2 ^ (f.p - 1) : Nat) : Int)) + ((x : Nat) : Int)) = ((M + x : Nat) : Int) := by rw [w1, wU (by omega) (by omega)]; omega
 refine jl oI mixed Try.func26 Try.ntmps26 rfl (by kernel_rfl) rfl ?_; cases neg
 ·repeat (conv => whnf); first | refine fH ?_ | refine fI ?_ | refine ⟨_, c1, ?_⟩ | refine ⟨_, c2, ?_⟩ | refine And.intro (by kernel_rfl) ?_ | refine And.intro (by decide) ?_
  show AV.a (.i .u64 (IntKind.wrap .u64 (IntKind.wrap .u64 (((e : Nat) : Int) * ((2 ^ (f.p - 1) : Nat) : Int)) + ((x : Nat) : Int)))) = _; rw [w2, e1]
 ·repeat (conv => whnf); first | refine fH ?_ | refine fI ?_ | refine ⟨_, c1, ?_⟩ | refine ⟨_, c2, ?_⟩ | refine And.intro (by kernel_rfl) ?_ | refine And.intro (by decide) ?_
  show AV.a (.i .u64 (IntKind.wrap .u64 (IntKind.wrap .u64 (IntKind.wrap .u64 (((e : Nat) : Int) * ((2 ^ (f.p - 1) : Nat) : Int)) + ((x : Nat) : Int)) + ((2 ^ (f.p + f.w - 1) : Nat) : Int)))) = _; rw [w2, e2, wU (by omega) (by omega)]; rfl
end
end Go.Proofs.Ytkgeihbcikiedaa.A
set_option linter.unusedVariables false
set_option linter.unusedSimpArgs false
set_option linter.constructorNameAsVariable false
set_option linter.unusedSectionVars false
set_option maxRecDepth 100000
set_option maxHeartbeats 4000000
namespace Go.Proofs.Ytkgeihbcikiedaa.A
open Go.RowKit Go.Proofs.Ytkgeihbcikiedaa.P Go.Proofs.YtkgeihbcikiedaaW.PrintWords Go.Proofs.YtkgeihbcikiedaaW.PrintMore Go.Proofs.Ytkgeihbcikiedaa.N Sk Dy
section
variable {f : Fm} (h : f.ok)
include h
theorem acj : 2 ^ (f.p - 2) < 2 ^ (f.p - 1) := Nat.pow_lt_pow_right (by omega) (by have := Fm.bounds h; omega)
theorem oK {b : Nat} (hb : b < 2 ^ 64) : Snd Try.prog 51 [.g (fmA f), .a (uA b)] (.a (uA (f.qui b))) := by
 have hB := Fm.bounds h; have c1 := kw h hb; have c3 := Wm h; have hfr := Fm.oL h (b := b); have hp2 := acj h
 have hpp : 2 ^ (f.p - 1) = 2 * 2 ^ (f.p - 2) := by rw [← Nat.pow_succ']; congr 1; omega
 have alM : 2 ^ (f.p - 1) ≤ 2 ^ 53 := Nat.pow_le_pow_right (by omega) (by omega); have z : decide (((f.fr b : Nat) : Int) < ((2 ^ (f.p - 2) : Nat) : Int)) = decide (f.fr b < 2 ^ (f.p - 2)) := decide_eq_decide.2 (by omega); refine jl oI mixed Try.func51 Try.ntmps51 rfl (by kernel_rfl) rfl ?_; unfold Fm.qui
 by_cases h1 : f.fr b < 2 ^ (f.p - 2)
 ·rw [if_pos h1]; rw [decide_eq_true h1] at z; have c2 := y7 h (neg := f.sn b) (e := f.ex b) (x := f.fr b + 2 ^ (f.p - 2)) Fm.mf (by omega)
  have w1 : IntKind.wrap .u64 (((f.fr b : Nat) : Int) + ((2 ^ (f.p - 2) : Nat) : Int)) = ((f.fr b + 2 ^ (f.p - 2) : Nat) : Int) := by rw [wU (by omega) (by omega)]; omega
  have c2' : Snd Try.prog 26 [.g (fmA f), .a (.b (((sb f b : Nat) : Int) == 1)), .a (uA (f.ex b)), .a (.i .u64 (IntKind.wrap .u64 (((f.fr b : Nat) : Int) + ((2 ^ (f.p - 2) : Nat) : Int))))] (.a (uA (f.bld (f.sn b) (f.ex b) (f.fr b + 2 ^ (f.p - 2))))) := by rw [Wn h, w1]; exact c2
  repeat (conv => whnf); first | refine fH ?_ | refine fI ?_ | refine ⟨_, c1, ?_⟩ | refine ⟨_, c3, ?_⟩ | refine ⟨_, c2', ?_⟩ | refine oJ z ?_ | refine And.intro (by kernel_rfl) ?_ | refine And.intro (by decide) ?_
  rfl
 ·rw [if_neg h1]; rw [decide_eq_false h1] at z; have c2 := y7 h (neg := f.sn b) (e := f.ex b) (x := f.fr b) Fm.mf (by omega)
  have c2' : Snd Try.prog 26 [.g (fmA f), .a (.b (((sb f b : Nat) : Int) == 1)), .a (uA (f.ex b)), .a (uA (f.fr b))] (.a (uA (f.bld (f.sn b) (f.ex b) (f.fr b)))) := by rw [Wn h]; exact c2
  repeat (conv => whnf); first | refine fH ?_ | refine fI ?_ | refine ⟨_, c1, ?_⟩ | refine ⟨_, c3, ?_⟩ | refine ⟨_, c2', ?_⟩ | refine iL z ?_ | refine And.intro (by kernel_rfl) ?_ | refine And.intro (by decide) ?_
  rfl
end
end Go.Proofs.Ytkgeihbcikiedaa.A
