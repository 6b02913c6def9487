/- The contracts of dyad's functions that are used here, for all numbers of at most a thousand parts. -/
import Derived.Test.YtkgeihbcikiedaaS0
import Derived.Test.YtkgeihbcikiedaaN21
set_option linter.unusedVariables false
set_option linter.unusedSimpArgs false
set_option linter.constructorNameAsVariable false
set_option maxRecDepth 100000
set_option maxHeartbeats 4000000
namespace Go.Proofs.Ytkgeihbcikiedaa.A
open Go.RowKit Go.Proofs.Ytkgeihbcikiedaa.P Go.Proofs.YtkgeihbcikiedaaW.PrintWords Go.Proofs.YtkgeihbcikiedaaW.PrintMore Go.Proofs.Ytkgeihbcikiedaa.N Sk Dy
theorem Snd.to {P : Program} {f : FuncId} {args : List AV} {r r' : AV} (h : Snd P f args r) (e : r = r') : Snd P f args r' := e ▸ h
end Go.Proofs.Ytkgeihbcikiedaa.A
