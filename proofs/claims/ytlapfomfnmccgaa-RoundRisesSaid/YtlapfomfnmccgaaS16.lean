/- The contracts of format.Of and of reference 3's small functions, for all inputs of the three formats. -/
import Derived.Test.YtlapfomfnmccgaaS15
set_option linter.unusedVariables false
set_option linter.unusedSimpArgs false
set_option linter.constructorNameAsVariable false
set_option linter.unusedSectionVars false
set_option maxRecDepth 100000
set_option maxHeartbeats 4000000
namespace Go.Proofs.Ytlapfomfnmccgaa.A
open Go.RowKit Go.Proofs.Ytlapfomfnmccgaa.P Go.Proofs.YtlapfomfnmccgaaW.PrintWords Go.Proofs.YtlapfomfnmccgaaW.PrintMore Go.Proofs.Ytlapfomfnmccgaa.N Sk Dy
/-! ### format.Of, and reference 3 -/
/-- The format of so many bits. -/
def fmOf (bits : Int) : Option Fm := if bits = 16 then some ⟨11, 5⟩ else if bits = 32 then some ⟨24, 8⟩ else if bits = 64 then some ⟨53, 11⟩ else none
theorem fmOf_ok {bits : Int} {f : Fm} (h : fmOf bits = some f) : f.ok ∧ bits = ((f.p + f.w : Nat) : Int) := by
  unfold fmOf at h
  split at h
  · cases h; exact ⟨.inl rfl, by assumption⟩
  split at h
  · cases h; exact ⟨.inr (.inl rfl), by assumption⟩
  split at h
  · cases h; exact ⟨.inr (.inr rfl), by assumption⟩
  · cases h
abbrev ofA (r : Option Fm) : AV := match r with
  | some f => .t [.g (fmA f), .a (iA 0)]
  | none => .t [.g [iA 0, iA 0, iA 0], .a (iA 1)]
theorem fall_snd : Snd Try.prog 33 [] (.g [iA 16, iA 11, iA 5, iA 32, iA 24, iA 8, iA 64, iA 53, iA 11]) := by
  refine snd_of ttOk mixed Try.func33 Try.ntmps33 rfl (by kernel_rfl) rfl ?_
  repeat (conv => whnf); first | refine br_tt ?_ | refine br_ff ?_ | refine And.intro (by kernel_rfl) ?_ | refine And.intro (by decide) ?_
  rfl
theorem fof_snd (bits : Int) : Snd Try.prog 10 [.a (iA bits)] (ofA (fmOf bits)) := by
  refine snd_of ttOk mixed Try.func10 Try.ntmps10 rfl (by kernel_rfl) rfl ?_
  unfold fmOf
  by_cases h1 : bits = 16
  · subst h1
    repeat (conv => whnf); first | refine ⟨5, ?_⟩ | refine br_tt ?_ | refine br_ff ?_ | refine ⟨_, fall_snd, ?_⟩ | refine And.intro (by kernel_rfl) ?_ | refine And.intro (by decide) ?_
    rfl
  have z1 : ((16 : Int) == bits) = false := by rw [beq_eq_false_iff_ne]; omega
  rw [if_neg h1]
  by_cases h2 : bits = 32
  · subst h2
    repeat (conv => whnf); first | refine ⟨5, ?_⟩ | refine br_tt ?_ | refine br_ff ?_ | refine ⟨_, fall_snd, ?_⟩ | refine And.intro (by kernel_rfl) ?_ | refine And.intro (by decide) ?_
    rfl
  have z2 : ((32 : Int) == bits) = false := by rw [beq_eq_false_iff_ne]; omega
  rw [if_neg h2]
  by_cases h3 : bits = 64
  · subst h3
    repeat (conv => whnf); first | refine ⟨5, ?_⟩ | refine br_tt ?_ | refine br_ff ?_ | refine ⟨_, fall_snd, ?_⟩ | refine And.intro (by kernel_rfl) ?_ | refine And.intro (by decide) ?_
    rfl
  have z3 : ((64 : Int) == bits) = false := by rw [beq_eq_false_iff_ne]; omega
  rw [if_neg h3]
  repeat (conv => whnf); first | refine ⟨5, ?_⟩ | refine br_tt ?_ | refine br_ff ?_ | refine ⟨_, fall_snd, ?_⟩ | refine br_f z1 ?_ | refine br_f z2 ?_ | refine br_f z3 ?_ | refine And.intro (by kernel_rfl) ?_ | refine And.intro (by decide) ?_
  rfl
theorem rof3_snd (bits : Int) : Snd Try.prog 11 [.a (iA bits)] (ofA (fmOf bits)) := by
  refine snd_of ttOk mixed Try.func11 Try.ntmps11 rfl (by kernel_rfl) rfl ?_
  unfold fmOf
  by_cases h1 : bits = 16
  · subst h1
    repeat (conv => whnf); first | refine br_tt ?_ | refine br_ff ?_ | refine And.intro (by kernel_rfl) ?_ | refine And.intro (by decide) ?_
    rfl
  have z1 : (bits == (16 : Int)) = false := by rw [beq_eq_false_iff_ne]; omega
  rw [if_neg h1]
  by_cases h2 : bits = 32
  · subst h2
    repeat (conv => whnf); first | refine br_tt ?_ | refine br_ff ?_ | refine And.intro (by kernel_rfl) ?_ | refine And.intro (by decide) ?_
    rfl
  have z2 : (bits == (32 : Int)) = false := by rw [beq_eq_false_iff_ne]; omega
  rw [if_neg h2]
  by_cases h3 : bits = 64
  · subst h3
    repeat (conv => whnf); first | refine br_tt ?_ | refine br_ff ?_ | refine And.intro (by kernel_rfl) ?_ | refine And.intro (by decide) ?_
    rfl
  have z3 : (bits == (64 : Int)) = false := by rw [beq_eq_false_iff_ne]; omega
  rw [if_neg h3]
  repeat (conv => whnf); first | refine br_tt ?_ | refine br_ff ?_ | refine br_f z1 ?_ | refine br_f z2 ?_ | refine br_f z3 ?_ | refine And.intro (by kernel_rfl) ?_ | refine And.intro (by decide) ?_
  rfl
theorem power_snd {k : Nat} (hk : k ∈ [4, 5, 7, 8, 9, 10, 11, 15, 22, 23, 31, 51, 52, 63]) : Snd Try.prog 93 [.a (iA k)] (.a (uA (2 ^ k))) := by
  refine snd_of ttOk mixed Try.func93 Try.ntmps93 rfl (by kernel_rfl) rfl ?_
  simp only [List.mem_cons, List.not_mem_nil, or_false] at hk
  rcases hk with rfl | rfl | rfl | rfl | rfl | rfl | rfl | rfl | rfl | rfl | rfl | rfl | rfl | rfl
  all_goals
    repeat (conv => whnf); first | refine ⟨70, ?_⟩ | refine br_tt ?_ | refine br_ff ?_ | refine And.intro (by kernel_rfl) ?_ | refine And.intro (by decide) ?_
    rfl
section
variable {f : Fm} (h : f.ok)
include h
theorem pw_w1 : Snd Try.prog 93 [.a (iA (IntKind.wrap .i64 ((f.w : Int) - 1)))] (.a (uA (2 ^ (f.w - 1)))) := by
  rw [wI_w1 h]; exact power_snd (by rcases h with rfl | rfl | rfl <;> decide)
theorem rbias_snd : Snd Try.prog 88 [.g (fmA f)] (.a (iA f.bias)) := by
  have c := pw_w1 h
  refine snd_of ttOk mixed Try.func88 Try.ntmps88 rfl (by kernel_rfl) rfl ?_
  repeat (conv => whnf); first | refine br_tt ?_ | refine br_ff ?_ | refine ⟨_, c, ?_⟩ | refine And.intro (by kernel_rfl) ?_ | refine And.intro (by decide) ?_
  rcases h with rfl | rfl | rfl <;> rfl
theorem rlow_snd : Snd Try.prog 72 [.g (fmA f)] (.a (iA f.low)) := by
  have c := rbias_snd h
  refine snd_of ttOk mixed Try.func72 Try.ntmps72 rfl (by kernel_rfl) rfl ?_
  repeat (conv => whnf); first | refine br_tt ?_ | refine br_ff ?_ | refine ⟨_, c, ?_⟩ | refine And.intro (by kernel_rfl) ?_ | refine And.intro (by decide) ?_
  rcases h with rfl | rfl | rfl <;> rfl
/-- The sign's number. -/
def sb (f : Fm) (b : Nat) : Nat := b / 2 ^ (f.p - 1) / 2 ^ f.w % 2
omit h in
end
end Go.Proofs.Ytlapfomfnmccgaa.A
