/- The program's own questions of layer 3 are answered yes: it is awake. The laws FormatTells and FormatPuts answer true, at every input of their types. The law FormatBack answers true, at every input of its types. The laws FormatOrder and FormatNext answer true, at every input of their types. -/
import Derived.Test.YtlaffgojgfdlnaaS16
import Derived.Test.YtlaffgojgfdlnaaN42
import Derived.Test.YtlaffgojgfdlnaaS8
set_option linter.unusedVariables false
set_option linter.unusedSimpArgs false
set_option linter.constructorNameAsVariable false
set_option linter.unusedSectionVars false
set_option maxRecDepth 100000
set_option maxHeartbeats 4000000
namespace Go.Proofs.Ytlaffgojgfdlnaa.A
open Go.RowKit Go.Proofs.Ytlaffgojgfdlnaa.P Go.Proofs.YtlaffgojgfdlnaaW.PrintWords Go.Proofs.YtlaffgojgfdlnaaW.PrintMore Go.Proofs.Ytlaffgojgfdlnaa.N Sk Dy
abbrev f16 : Fm := ⟨11, 5⟩
theorem ok16 : f16.ok := .inl rfl
end Go.Proofs.Ytlaffgojgfdlnaa.A
set_option linter.unusedVariables false
set_option linter.unusedSimpArgs false
set_option linter.constructorNameAsVariable false
set_option linter.unusedSectionVars false
set_option maxRecDepth 100000
set_option maxHeartbeats 4000000
namespace Go.Proofs.Ytlaffgojgfdlnaa.A
open Go.RowKit Go.Proofs.Ytlaffgojgfdlnaa.P Go.Proofs.YtlaffgojgfdlnaaW.PrintWords Go.Proofs.YtlaffgojgfdlnaaW.PrintMore Go.Proofs.Ytlaffgojgfdlnaa.N Sk Dy
theorem u64_nat {x : Int} (h : (Lit.int .u64 x).wf = true) : ∃ n : Nat, x = n ∧ n < 2 ^ 64 := by
  have := wf_u64 h
  exact ⟨x.toNat, by omega, by omega⟩
end Go.Proofs.Ytlaffgojgfdlnaa.A
set_option linter.unusedVariables false
set_option linter.unusedSimpArgs false
set_option linter.constructorNameAsVariable false
set_option linter.unusedSectionVars false
set_option maxRecDepth 100000
set_option maxHeartbeats 4000000
namespace Go.Proofs.Ytlaffgojgfdlnaa.A
open Go.RowKit Go.Proofs.Ytlaffgojgfdlnaa.P Go.Proofs.YtlaffgojgfdlnaaW.PrintWords Go.Proofs.YtlaffgojgfdlnaaW.PrintMore Go.Proofs.Ytlaffgojgfdlnaa.N Sk Dy
theorem fput_snd' {f : Fm} (h : f.ok) {d : Dy} (hn : Few d.n) : Snd Try.prog 30 [.g (fmA f), .g (dA d)] (.t [.a (uA (f.put d).1), .a (iA (f.put d).2)]) := by
  have := fput_snd h (neg := d.neg) (e := d.e) (few_ok hn).1 (few_ok hn).2
  rwa [nv_parts] at this
section
variable {f : Fm} (h : f.ok) {x : Int} {b : Nat} (e : x = (b : Int)) (hb : b < 2 ^ 64)
include h e hb
end
end Go.Proofs.Ytlaffgojgfdlnaa.A
set_option linter.unusedVariables false
set_option linter.unusedSimpArgs false
set_option linter.constructorNameAsVariable false
set_option linter.unusedSectionVars false
set_option maxRecDepth 100000
set_option maxHeartbeats 4000000
namespace Go.Proofs.Ytlaffgojgfdlnaa.A
open Go.RowKit Go.Proofs.Ytlaffgojgfdlnaa.P Go.Proofs.YtlaffgojgfdlnaaW.PrintWords Go.Proofs.YtlaffgojgfdlnaaW.PrintMore Go.Proofs.Ytlaffgojgfdlnaa.N Sk Dy
theorem few_val {f : Fm} (h : f.ok) (b : Nat) : Few (f.val b).1.n := by have := Fm.val_nlen h b; show nlen _ ≤ 31000; omega
end Go.Proofs.Ytlaffgojgfdlnaa.A
