/- The law FormatBack answers true, at every input of its types. -/
import Derived.Test.YtlaffgojgfdlnaaS19
import Derived.Test.YtlaffgojgfdlnaaN42
set_option linter.unusedVariables false
set_option linter.unusedSimpArgs false
set_option linter.constructorNameAsVariable false
set_option linter.unusedSectionVars false
set_option maxRecDepth 100000
set_option maxHeartbeats 4000000
namespace Go.Proofs.Ytlaffgojgfdlnaa.A
open Go.RowKit Go.Proofs.Ytlaffgojgfdlnaa.P Go.Proofs.YtlaffgojgfdlnaaW.PrintWords Go.Proofs.YtlaffgojgfdlnaaW.PrintMore Go.Proofs.Ytlaffgojgfdlnaa.N Sk Dy
theorem fput_snd' {f : Fm} (h : f.ok) {d : Dy} (hn : Few d.n) : Snd Try.prog 30 [.g (fmA f), .g (dA d)] (.t [.a (uA (f.put d).1), .a (iA (f.put d).2)]) := by
  have := fput_snd h (neg := d.neg) (e := d.e) (few_ok hn).1 (few_ok hn).2
  rwa [nv_parts] at this
theorem rA_zero' (m : Int) : rA (Dy.zero, m) = .t [.g (dL false [] 0), .a (iA m)] := rA_zero m
section
variable {f : Fm} (h : f.ok) {x : Int} {b : Nat} (e : x = (b : Int)) (hb : b < 2 ^ 64)
include h e hb
end
end Go.Proofs.Ytlaffgojgfdlnaa.A
