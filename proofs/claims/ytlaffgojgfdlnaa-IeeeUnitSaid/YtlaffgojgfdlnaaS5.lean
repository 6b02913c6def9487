/- The contracts of dyad.Same, Floor and Of, for all numbers of at most a thousand parts. -/
import Derived.Test.YtlaffgojgfdlnaaS4
set_option linter.unusedVariables false
set_option linter.unusedSimpArgs false
set_option linter.constructorNameAsVariable false
set_option maxRecDepth 100000
set_option maxHeartbeats 4000000
namespace Go.Proofs.Ytlaffgojgfdlnaa.A
open Go.RowKit Go.Proofs.Ytlaffgojgfdlnaa.P Go.Proofs.YtlaffgojgfdlnaaW.PrintWords Go.Proofs.YtlaffgojgfdlnaaW.PrintMore Go.Proofs.Ytlaffgojgfdlnaa.N Sk Dy
section
variable {la lb : List Int} {na nb : Bool} {ea eb : Int} {a b : Dy}
theorem dsame_snd (ha : Ok la) (hb : Ok lb) (hla : la.length ≤ 1000) (hlb : lb.length ≤ 1000) : Snd Try.prog 23 [.g (dL na la ea), .g (dL nb lb eb)] (.a (.b (Dy.same ⟨na, nv la, ea⟩ ⟨nb, nv lb, eb⟩))) := by
  have c := dcmp_snd (na := na) (nb := nb) (ea := ea) (eb := eb) ha hb hla hlb
  refine snd_of ttOk mixed Try.func23 Try.ntmps23 rfl (by kernel_rfl) rfl ?_
  generalize hr : Dy.cmp ⟨na, nv la, ea⟩ ⟨nb, nv lb, eb⟩ = r at c
  have hs : Dy.same ⟨na, nv la, ea⟩ ⟨nb, nv lb, eb⟩ = (decide (r.1 = 0) && decide (r.2 = 0)) := by unfold Dy.same; rw [hr]
  rw [hs]
  by_cases h : r.1 = 0
  · have z : (r.1 == 0) = true := by simp [h]
    rw [decide_eq_true h, Bool.true_and]
    repeat (conv => whnf); first | refine br_tt ?_ | refine br_ff ?_ | refine ⟨_, c, ?_⟩ | refine br_t z ?_ | refine And.intro (by kernel_rfl) ?_
    show AV.a (.b (r.2 == 0)) = _
    congr 2
  · have z : (r.1 == 0) = false := by simp [h]
    rw [decide_eq_false h, Bool.false_and]
    repeat (conv => whnf); first | refine br_tt ?_ | refine br_ff ?_ | refine ⟨_, c, ?_⟩ | refine br_f z ?_ | refine And.intro (by kernel_rfl) ?_
    rfl
/-- A number, whether something was lost, a message. -/
abbrev fA (r : Dy × Bool × Int) : AV := .t [.g (dA r.1), .a (.b r.2.1), .a (iA r.2.2)]
theorem dof_snd {n : Int} (h0 : -9223372036854775808 ≤ n) (h1 : n < 9223372036854775808) : Snd Try.prog 32 [.a (iA n)] (.g (dA (Dy.of n))) := by
  have hn : nlen n.natAbs ≤ 64 := nlen_le (by omega)
  have ho := of_snd (n := ((n.natAbs : Nat) : Int)) (by omega) (by omega)
  rw [Int.toNat_natCast] at ho
  refine snd_of ttOk mixed Try.func32 Try.ntmps32 rfl (by kernel_rfl) rfl ?_
  unfold Dy.of
  by_cases h : n < 0
  · have e : IntKind.wrap .u64 (0 - (IntKind.wrap .u64 n)) = ((n.natAbs : Nat) : Int) := by simp only [IntKind.wrap_u64]; omega
    have z : decide (n < 0) = true := decide_eq_true h
    have hp := plain_snd' (d := ⟨decide (n < 0), n.natAbs, 0⟩) (by show nlen _ ≤ 31000; dsimp only; omega) (by unfold Exs; dsimp only; omega)
    rw [← e] at ho
    repeat (conv => whnf); first | refine br_tt ?_ | refine br_ff ?_ | refine ⟨_, ho, ?_⟩ | refine ⟨_, hp, ?_⟩ | refine br_t z ?_ | refine And.intro (by kernel_rfl) ?_
    rfl
  · have e : IntKind.wrap .u64 n = ((n.natAbs : Nat) : Int) := by rw [IntKind.wrap_u64]; omega
    have z : decide (n < 0) = false := decide_eq_false h
    have hp := plain_snd' (d := ⟨decide (n < 0), n.natAbs, 0⟩) (by show nlen _ ≤ 31000; dsimp only; omega) (by unfold Exs; dsimp only; omega)
    rw [← e] at ho
    repeat (conv => whnf); first | refine br_tt ?_ | refine br_ff ?_ | refine ⟨_, ho, ?_⟩ | refine ⟨_, hp, ?_⟩ | refine br_f z ?_ | refine And.intro (by kernel_rfl) ?_
    rfl
end
end Go.Proofs.Ytlaffgojgfdlnaa.A
