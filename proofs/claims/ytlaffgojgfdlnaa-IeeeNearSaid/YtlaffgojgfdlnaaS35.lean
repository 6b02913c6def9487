import Derived.Test.YtlaffgojgfdlnaaS34
import Derived.Test.YtlaffgojgfdlnaaN57
import Derived.Test.YtlaffgojgfdlnaaPx0
set_option linter.unusedVariables false
set_option linter.unusedSimpArgs false
set_option linter.constructorNameAsVariable false
set_option linter.unusedSectionVars false
set_option maxRecDepth 100000
set_option maxHeartbeats 8000000
namespace Go.Proofs.Ytlaffgojgfdlnaa.A
open Go.RowKit Go.Proofs.Ytlaffgojgfdlnaa.P Go.Proofs.YtlaffgojgfdlnaaW.PrintWords Go.Proofs.YtlaffgojgfdlnaaW.PrintMore Go.Proofs.Ytlaffgojgfdlnaa.N Sk Dy
theorem val_fin {f : Fm} {b : Nat} (h : (f.val b).2 = 0) : b < 2 ^ (f.p + f.w) ∧ f.cl b ≤ 2 := by
  rcases Fm.val_cases (f := f) b with ⟨hv, _⟩ | ⟨hv, _⟩ | ⟨_, k⟩
  · rw [hv] at h; exact absurd h (by decide)
  · rw [hv] at h; exact absurd h (by decide)
  · exact k
section
variable {f : Fm} (h : f.ok)
include h
end
end Go.Proofs.Ytlaffgojgfdlnaa.A
