/- The law DyadFloors answers true, at every input of its types. -/
import Derived.Test.YtlaffgojgfdlnaaS6
set_option linter.unusedVariables false
set_option linter.unusedSimpArgs false
set_option linter.constructorNameAsVariable false
set_option maxRecDepth 100000
set_option maxHeartbeats 4000000
namespace Go.Proofs.Ytlaffgojgfdlnaa.A
open Go.RowKit Go.Proofs.Ytlaffgojgfdlnaa.P Go.Proofs.YtlaffgojgfdlnaaW.PrintWords Go.Proofs.YtlaffgojgfdlnaaW.PrintMore Go.Proofs.Ytlaffgojgfdlnaa.N Sk Dy
theorem dtop_snd' {d : Dy} (h : Few d.n) : Snd Try.prog 77 [.g (dA d)] (cA (Dy.top d)) := by
  have := dtop_snd (na := d.neg) (ea := d.e) (few_ok h).1 (few_ok h).2
  rwa [nv_parts] at this
end Go.Proofs.Ytlaffgojgfdlnaa.A
