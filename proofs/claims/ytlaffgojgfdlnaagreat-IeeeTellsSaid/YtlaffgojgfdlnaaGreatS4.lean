/- The contract of dyad.Cmp, for all numbers of at most a thousand parts. -/
import Derived.Test.YtlaffgojgfdlnaaGreatS3
set_option linter.unusedVariables false
set_option linter.unusedSimpArgs false
set_option linter.constructorNameAsVariable false
set_option maxRecDepth 100000
set_option maxHeartbeats 4000000
namespace Go.Proofs.YtlaffgojgfdlnaaGreat.A
open Go.RowKit Go.Proofs.YtlaffgojgfdlnaaGreat.P Go.Proofs.YtlaffgojgfdlnaaGreatW.PrintWords Go.Proofs.YtlaffgojgfdlnaaGreatW.PrintMore Go.Proofs.YtlaffgojgfdlnaaGreat.N Sk Dy
section
variable {la lb : List Int} {na nb : Bool} {ea eb : Int} {a b : Dy}
abbrev cA (r : Int × Int) : AV := .t [.a (iA r.1), .a (iA r.2)]
theorem cA_congr {x y m : Int} (h : x = y) : cA (x, m) = cA (y, m) := by rw [h]
end
end Go.Proofs.YtlaffgojgfdlnaaGreat.A
