/- The law DyadFloors answers true, at every input of its types. -/
import Derived.Test.YtlaffgojgfdlnaaS6
set_option linter.unusedVariables false
set_option linter.unusedSimpArgs false
set_option linter.constructorNameAsVariable false
set_option maxRecDepth 100000
set_option maxHeartbeats 4000000
namespace Go.Proofs.Ytlaffgojgfdlnaa.A
open Go.RowKit Go.Proofs.Ytlaffgojgfdlnaa.P Go.Proofs.YtlaffgojgfdlnaaW.PrintWords Go.Proofs.YtlaffgojgfdlnaaW.PrintMore Go.Proofs.Ytlaffgojgfdlnaa.N Sk Dy
theorem dsame_snd' {a b : Dy} (ha : Few a.n) (hb : Few b.n) : Snd Try.prog 23 [.g (dA a), .g (dA b)] (.a (.b (Dy.same a b))) := by
  have := dsame_snd (na := a.neg) (nb := b.neg) (ea := a.e) (eb := b.e) (few_ok ha).1 (few_ok hb).1 (few_ok ha).2 (few_ok hb).2
  rwa [nv_parts, nv_parts] at this
theorem dtop_snd' {d : Dy} (h : Few d.n) : Snd Try.prog 77 [.g (dA d)] (cA (Dy.top d)) := by
  have := dtop_snd (na := d.neg) (ea := d.e) (few_ok h).1 (few_ok h).2
  rwa [nv_parts] at this
end Go.Proofs.Ytlaffgojgfdlnaa.A
