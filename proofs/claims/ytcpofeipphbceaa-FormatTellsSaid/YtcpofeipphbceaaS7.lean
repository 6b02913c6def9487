/- The law DyadFloors answers true, at every input of its types. -/
import Derived.Test.YtcpofeipphbceaaS6
set_option linter.unusedVariables false
set_option linter.unusedSimpArgs false
set_option linter.constructorNameAsVariable false
set_option maxRecDepth 100000
set_option maxHeartbeats 4000000
namespace Go.Proofs.Ytcpofeipphbceaa.A
open Go.RowKit Go.Proofs.Ytcpofeipphbceaa.P Go.Proofs.YtcpofeipphbceaaW.PrintWords Go.Proofs.YtcpofeipphbceaaW.PrintMore Go.Proofs.Ytcpofeipphbceaa.N Sk Dy
theorem dsame_snd' {a b : Dy} (ha : Few a.n) (hb : Few b.n) : Snd Try.prog 40 [.g (dA a), .g (dA b)] (.a (.b (Dy.same a b))) := by
  have := dsame_snd (na := a.neg) (nb := b.neg) (ea := a.e) (eb := b.e) (few_ok ha).1 (few_ok hb).1 (few_ok ha).2 (few_ok hb).2
  rwa [nv_parts, nv_parts] at this
theorem beq_plen {n : Nat} : (((parts n).length : Int) == 0) = decide (n = 0) := by
  by_cases h : n = 0
  · subst h; rw [parts_zero]; rfl
  · rw [decide_eq_false h, beq_eq_false_iff_ne]
    intro e
    have : (parts n) = [] := List.length_eq_zero_iff.1 (by omega)
    exact h (by rw [← nv_parts n, this]; rfl)
end Go.Proofs.Ytcpofeipphbceaa.A
