/- The laws FormatOrder and FormatNext answer true, at every input of their types. -/
import Derived.Test.YtlaffgojgfdlnaaS20
import Derived.Test.YtlaffgojgfdlnaaS8
set_option linter.unusedVariables false
set_option linter.unusedSimpArgs false
set_option linter.constructorNameAsVariable false
set_option linter.unusedSectionVars false
set_option maxRecDepth 100000
set_option maxHeartbeats 4000000
namespace Go.Proofs.Ytlaffgojgfdlnaa.A
open Go.RowKit Go.Proofs.Ytlaffgojgfdlnaa.P Go.Proofs.YtlaffgojgfdlnaaW.PrintWords Go.Proofs.YtlaffgojgfdlnaaW.PrintMore Go.Proofs.Ytlaffgojgfdlnaa.N Sk Dy
theorem few_val {f : Fm} (h : f.ok) (b : Nat) : Few (f.val b).1.n := by have := Fm.val_nlen h b; show nlen _ ≤ 31000; omega
end Go.Proofs.Ytlaffgojgfdlnaa.A
