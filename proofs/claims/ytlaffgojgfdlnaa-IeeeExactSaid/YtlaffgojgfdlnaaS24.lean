/- The program's own questions of layer 4 are answered yes; the laws RoundTurns and RoundKeeps answer true, at every input of their types. -/
import Derived.Test.YtlaffgojgfdlnaaS23
import Derived.Test.YtlaffgojgfdlnaaN48
set_option linter.unusedVariables false
set_option linter.unusedSimpArgs false
set_option linter.constructorNameAsVariable false
set_option linter.unusedSectionVars false
set_option maxRecDepth 100000
set_option maxHeartbeats 8000000
namespace Go.Proofs.Ytlaffgojgfdlnaa.A
open Go.RowKit Go.Proofs.Ytlaffgojgfdlnaa.P Go.Proofs.YtlaffgojgfdlnaaW.PrintWords Go.Proofs.YtlaffgojgfdlnaaW.PrintMore Go.Proofs.Ytlaffgojgfdlnaa.N Sk Dy
/-! ### The program is awake, to layer 4 -/
/-! ### The laws RoundTurns and RoundKeeps -/
abbrev andI (x y : Int) : Int := IntKind.wrap .i64 (((BitVec.ofInt (IntKind.bits .i64) x &&& BitVec.ofInt (IntKind.bits .i64) y).toNat : Nat) : Int)
end Go.Proofs.Ytlaffgojgfdlnaa.A
