/- The law RoundRises answers true, at every input of its types. -/
import Derived.Test.YtlaffgojgfdlnaaGreatS23
import Derived.Test.YtlaffgojgfdlnaaGreatN48
set_option linter.unusedVariables false
set_option linter.unusedSimpArgs false
set_option linter.constructorNameAsVariable false
set_option linter.unusedSectionVars false
set_option maxRecDepth 100000
set_option maxHeartbeats 8000000
namespace Go.Proofs.YtlaffgojgfdlnaaGreat.A
open Go.RowKit Go.Proofs.YtlaffgojgfdlnaaGreat.P Go.Proofs.YtlaffgojgfdlnaaGreatW.PrintWords Go.Proofs.YtlaffgojgfdlnaaGreatW.PrintMore Go.Proofs.YtlaffgojgfdlnaaGreat.N Sk Dy
theorem sI_le {z : Int} : (sI z ≤ 0 ↔ z ≤ 0) ∧ (sI z ≥ 0 ↔ z ≥ 0) ∧ (sI z < 0 ↔ z < 0) := by unfold sI; split <;> (try split) <;> omega
section
variable {f : Fm} (h : f.ok)
include h
end
end Go.Proofs.YtlaffgojgfdlnaaGreat.A
