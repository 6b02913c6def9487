/- The program's own questions of layer 3 are answered yes: it is awake. -/
import Derived.Test.YtcpofeipphbceaaS17
set_option linter.unusedVariables false
set_option linter.unusedSimpArgs false
set_option linter.constructorNameAsVariable false
set_option linter.unusedSectionVars false
set_option maxRecDepth 100000
set_option maxHeartbeats 4000000
namespace Go.Proofs.Ytcpofeipphbceaa.A
open Go.RowKit Go.Proofs.Ytcpofeipphbceaa.P Go.Proofs.YtcpofeipphbceaaW.PrintWords Go.Proofs.YtcpofeipphbceaaW.PrintMore Go.Proofs.Ytcpofeipphbceaa.N Sk Dy
theorem of_lit (n : Int) (neg : Bool) (m : Nat) (l : List Int) (e : Int) (h0 : -9223372036854775808 ≤ n) (h1 : n < 9223372036854775808) (h2 : Dy.of n = ⟨neg, m, e⟩) (h3 : parts m = l) : Snd Try.prog 39 [.a (iA n)] (.g (dL neg l e)) := (dof_snd h0 h1).to (by rw [h2, ← h3])
abbrev f16 : Fm := ⟨11, 5⟩
theorem ok16 : f16.ok := .inl rfl
theorem awake3_snd : Snd Try.prog 8 [] (.a (.b true)) := by
  have o1 : Ok [1] := ok_lit (by decide)
  have v1 := (fval_snd ok16 (b := 0x3c00) (by decide)).to (rA_lit (neg := false) (n := 1) (l := [1]) (e := 0) (m := 0) (by decide +kernel) (by decide +kernel))
  have v2 := (fval_snd ok16 (b := 1) (by decide)).to (rA_lit (neg := false) (n := 1) (l := [1]) (e := -24) (m := 0) (by decide +kernel) (by decide +kernel))
  have v3 := (fval_snd ok16 (b := 0x7c00) (by decide)).to (rA_lit (neg := false) (n := 0) (l := []) (e := 0) (m := 1) (by decide +kernel) (by decide +kernel))
  have v4 := (fval_snd ok16 (b := 65536) (by decide)).to (rA_lit (neg := false) (n := 0) (l := []) (e := 0) (m := 3) (by decide +kernel) (by decide +kernel))
  have d1 := of_lit (-2) true 1 [1] 1 (by decide) (by decide) (by decide +kernel) (by decide +kernel)
  have d2 := of_lit 65536 false 1 [1] 16 (by decide) (by decide) (by decide +kernel) (by decide +kernel)
  have d3 := of_lit 1 false 1 [1] 0 (by decide) (by decide) (by decide +kernel) (by decide +kernel)
  have p1 := (fput_snd ok16 (neg := true) (e := 1) o1 (by decide)).to (r' := .t [.a (uA 0xc000), .a (iA 0)]) (by rw [show Fm.put f16 ⟨true, nv [1], 1⟩ = (0xc000, 0) by decide +kernel])
  have p2 := (fput_snd ok16 (neg := false) (e := 16) o1 (by decide)).to (r' := .t [.a (uA 0), .a (iA 10)]) (by rw [show Fm.put f16 ⟨false, nv [1], 16⟩ = (0, 10) by decide +kernel])
  have s1 := (dsame_snd (na := false) (nb := false) (ea := 0) (eb := 0) o1 o1 (by decide) (by decide)).to (r' := .a (.b true)) (by rw [show Dy.same ⟨false, nv [1], 0⟩ ⟨false, nv [1], 0⟩ = true by decide +kernel])
  have k1 := (fcl_snd ok16 (b := 0x7e00) (by decide)).to (r' := .a (iA 4)) (by kernel_rfl)
  have k2 := (fcl_snd ok16 (b := 0x7c01) (by decide)).to (r' := .a (iA 5)) (by kernel_rfl)
  have k3 := (fcl_snd ok16 (b := 1) (by decide)).to (r' := .a (iA 1)) (by kernel_rfl)
  have n1 := (fneg_snd ok16 (b := 0x8000) (by decide)).to (r' := .a (.b true)) (by kernel_rfl)
  have m1 := (fmay_snd ok16 (b := 0xffff) (by decide)).to (r' := .a (.b true)) (by kernel_rfl)
  have m2 := (fmay_snd ok16 (b := 0x10000) (by decide)).to (r' := .a (.b false)) (by kernel_rfl)
  have i1 := (finf_snd ok16 true).to (r' := .a (uA 0xfc00)) (by kernel_rfl)
  have g1 := (fgrt_snd ok16 false).to (r' := .a (uA 0x7bff)) (by kernel_rfl)
  have z1 := (fnought_snd ok16 true).to (r' := .a (uA 0x8000)) (by kernel_rfl)
  have w1 := (fnone_snd ok16).to (r' := .a (uA 0x7e00)) (by kernel_rfl)
  have q1 := (fqui_snd ok16 (b := 0xfc01) (by decide)).to (r' := .a (uA 0xfe01)) (by kernel_rfl)
  have b1 := (bias_snd ok16).to (r' := .a (iA 15)) (by kernel_rfl)
  have l1 := (low_snd ok16).to (r' := .a (iA (-24))) (by kernel_rfl)
  have f1 := fof_snd 16
  have f2 := fof_snd 17
  refine snd_of ttOk mixed Try.func8 Try.ntmps8 rfl (by kernel_rfl) rfl ?_
  repeat (conv => whnf); first | refine br_tt ?_ | refine br_ff ?_ | refine ⟨_, f1, ?_⟩ | refine ⟨_, f2, ?_⟩ | refine ⟨_, v1, ?_⟩ | refine ⟨_, v2, ?_⟩ | refine ⟨_, v3, ?_⟩ | refine ⟨_, v4, ?_⟩ | refine ⟨_, d1, ?_⟩ | refine ⟨_, d2, ?_⟩ | refine ⟨_, d3, ?_⟩ | refine ⟨_, p1, ?_⟩ | refine ⟨_, p2, ?_⟩ | refine ⟨_, s1, ?_⟩ | refine ⟨_, k1, ?_⟩ | refine ⟨_, k2, ?_⟩ | refine ⟨_, k3, ?_⟩ | refine ⟨_, n1, ?_⟩ | refine ⟨_, m1, ?_⟩ | refine ⟨_, m2, ?_⟩ | refine ⟨_, i1, ?_⟩ | refine ⟨_, g1, ?_⟩ | refine ⟨_, z1, ?_⟩ | refine ⟨_, w1, ?_⟩ | refine ⟨_, q1, ?_⟩ | refine ⟨_, b1, ?_⟩ | refine ⟨_, l1, ?_⟩ | refine And.intro (by kernel_rfl) ?_ | refine And.intro (by decide) ?_
  rfl
end Go.Proofs.Ytcpofeipphbceaa.A
