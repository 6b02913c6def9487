/- The program's own questions of layer 3 are answered yes: it is awake. -/
import Derived.Test.YtlaffgojgfdlnaaS16
set_option linter.unusedVariables false
set_option linter.unusedSimpArgs false
set_option linter.constructorNameAsVariable false
set_option linter.unusedSectionVars false
set_option maxRecDepth 100000
set_option maxHeartbeats 4000000
namespace Go.Proofs.Ytlaffgojgfdlnaa.A
open Go.RowKit Go.Proofs.Ytlaffgojgfdlnaa.P Go.Proofs.YtlaffgojgfdlnaaW.PrintWords Go.Proofs.YtlaffgojgfdlnaaW.PrintMore Go.Proofs.Ytlaffgojgfdlnaa.N Sk Dy
theorem of_lit (n : Int) (neg : Bool) (m : Nat) (l : List Int) (e : Int) (h0 : -9223372036854775808 ≤ n) (h1 : n < 9223372036854775808) (h2 : Dy.of n = ⟨neg, m, e⟩) (h3 : parts m = l) : Snd Try.prog 32 [.a (iA n)] (.g (dL neg l e)) := (dof_snd h0 h1).to (by rw [h2, ← h3])
abbrev f16 : Fm := ⟨11, 5⟩
theorem ok16 : f16.ok := .inl rfl
end Go.Proofs.Ytlaffgojgfdlnaa.A
