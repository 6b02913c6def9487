/- The program's own questions of layer 2 are answered yes: it is awake. -/
import Derived.Test.YtlaffgojgfdlnaaS4
set_option linter.unusedVariables false
set_option linter.unusedSimpArgs false
set_option linter.constructorNameAsVariable false
set_option maxRecDepth 100000
set_option maxHeartbeats 4000000
namespace Go.Proofs.Ytlaffgojgfdlnaa.A
open Go.RowKit Go.Proofs.Ytlaffgojgfdlnaa.P Go.Proofs.YtlaffgojgfdlnaaW.PrintWords Go.Proofs.YtlaffgojgfdlnaaW.PrintMore Go.Proofs.Ytlaffgojgfdlnaa.N Sk Dy
/-! ### awake: calls whose answers the document fixes -/
theorem Snd.to {P : Program} {f : FuncId} {args : List AV} {r r' : AV} (h : Snd P f args r) (e : r = r') : Snd P f args r' := e ▸ h
end Go.Proofs.Ytlaffgojgfdlnaa.A
