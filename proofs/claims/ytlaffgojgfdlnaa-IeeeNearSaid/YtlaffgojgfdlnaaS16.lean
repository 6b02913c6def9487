/- The contracts of format.Of and of reference 3's small functions, for all inputs of the three formats. -/
import Derived.Test.YtlaffgojgfdlnaaS15
set_option linter.unusedVariables false
set_option linter.unusedSimpArgs false
set_option linter.constructorNameAsVariable false
set_option linter.unusedSectionVars false
set_option maxRecDepth 100000
set_option maxHeartbeats 4000000
namespace Go.Proofs.Ytlaffgojgfdlnaa.A
open Go.RowKit Go.Proofs.Ytlaffgojgfdlnaa.P Go.Proofs.YtlaffgojgfdlnaaW.PrintWords Go.Proofs.YtlaffgojgfdlnaaW.PrintMore Go.Proofs.Ytlaffgojgfdlnaa.N Sk Dy
/-! ### format.Of, and reference 3 -/
/-- The format of so many bits. -/
def fmOf (bits : Int) : Option Fm := if bits = 16 then some ⟨11, 5⟩ else if bits = 32 then some ⟨24, 8⟩ else if bits = 64 then some ⟨53, 11⟩ else none
theorem fmOf_ok {bits : Int} {f : Fm} (h : fmOf bits = some f) : f.ok ∧ bits = ((f.p + f.w : Nat) : Int) := by
  unfold fmOf at h
  split at h
  · cases h; exact ⟨.inl rfl, by assumption⟩
  split at h
  · cases h; exact ⟨.inr (.inl rfl), by assumption⟩
  split at h
  · cases h; exact ⟨.inr (.inr rfl), by assumption⟩
  · cases h
abbrev ofA (r : Option Fm) : AV := match r with
  | some f => .t [.g (fmA f), .a (iA 0)]
  | none => .t [.g [iA 0, iA 0, iA 0], .a (iA 1)]
theorem fall_snd : Snd Try.prog 35 [] (.g [iA 16, iA 11, iA 5, iA 32, iA 24, iA 8, iA 64, iA 53, iA 11]) := by
  refine snd_of ttOk mixed Try.func35 Try.ntmps35 rfl (by kernel_rfl) rfl ?_
  repeat (conv => whnf); first | refine br_tt ?_ | refine br_ff ?_ | refine And.intro (by kernel_rfl) ?_ | refine And.intro (by decide) ?_
  rfl
theorem fof_snd (bits : Int) : Snd Try.prog 12 [.a (iA bits)] (ofA (fmOf bits)) := by
  refine snd_of ttOk mixed Try.func12 Try.ntmps12 rfl (by kernel_rfl) rfl ?_
  unfold fmOf
  by_cases h1 : bits = 16
  · subst h1
    repeat (conv => whnf); first | refine ⟨5, ?_⟩ | refine br_tt ?_ | refine br_ff ?_ | refine ⟨_, fall_snd, ?_⟩ | refine And.intro (by kernel_rfl) ?_ | refine And.intro (by decide) ?_
    rfl
  have z1 : ((16 : Int) == bits) = false := by rw [beq_eq_false_iff_ne]; omega
  rw [if_neg h1]
  by_cases h2 : bits = 32
  · subst h2
    repeat (conv => whnf); first | refine ⟨5, ?_⟩ | refine br_tt ?_ | refine br_ff ?_ | refine ⟨_, fall_snd, ?_⟩ | refine And.intro (by kernel_rfl) ?_ | refine And.intro (by decide) ?_
    rfl
  have z2 : ((32 : Int) == bits) = false := by rw [beq_eq_false_iff_ne]; omega
  rw [if_neg h2]
  by_cases h3 : bits = 64
  · subst h3
    repeat (conv => whnf); first | refine ⟨5, ?_⟩ | refine br_tt ?_ | refine br_ff ?_ | refine ⟨_, fall_snd, ?_⟩ | refine And.intro (by kernel_rfl) ?_ | refine And.intro (by decide) ?_
    rfl
  have z3 : ((64 : Int) == bits) = false := by rw [beq_eq_false_iff_ne]; omega
  rw [if_neg h3]
  repeat (conv => whnf); first | refine ⟨5, ?_⟩ | refine br_tt ?_ | refine br_ff ?_ | refine ⟨_, fall_snd, ?_⟩ | refine br_f z1 ?_ | refine br_f z2 ?_ | refine br_f z3 ?_ | refine And.intro (by kernel_rfl) ?_ | refine And.intro (by decide) ?_
  rfl
section
variable {f : Fm} (h : f.ok)
include h
/-- The sign's number. -/
def sb (f : Fm) (b : Nat) : Nat := b / 2 ^ (f.p - 1) / 2 ^ f.w % 2
omit h in
end
end Go.Proofs.Ytlaffgojgfdlnaa.A
