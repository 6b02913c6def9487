/- The law DyadOrder answers true, at every input of its types. -/
import Derived.Test.YtlapfomfnmccgaaS7
import Derived.Test.YtlapfomfnmccgaaN21
set_option linter.unusedVariables false
set_option linter.unusedSimpArgs false
set_option linter.constructorNameAsVariable false
set_option maxRecDepth 100000
set_option maxHeartbeats 4000000
namespace Go.Proofs.Ytlapfomfnmccgaa.A
open Go.RowKit Go.Proofs.Ytlapfomfnmccgaa.P Go.Proofs.YtlapfomfnmccgaaW.PrintWords Go.Proofs.YtlapfomfnmccgaaW.PrintMore Go.Proofs.Ytlapfomfnmccgaa.N Sk Dy
theorem dcmp_snd2 {a b : Dy} (ha : Few a.n) (hb : Few b.n) : Snd Try.prog 23 [.g (dA a), .g (dA b)] (cA (Dy.cmp a b)) := by
  have := dcmp_snd (na := a.neg) (nb := b.neg) (ea := a.e) (eb := b.e) (few_ok ha).1 (few_ok hb).1 (few_ok ha).2 (few_ok hb).2
  rwa [nv_parts, nv_parts] at this
end Go.Proofs.Ytlapfomfnmccgaa.A
