/- The program's own questions of layer 2 are answered yes: it is awake. -/
import Derived.Test.YtolcejcdehfdcaaS5
set_option linter.unusedVariables false
set_option linter.unusedSimpArgs false
set_option linter.constructorNameAsVariable false
set_option maxRecDepth 100000
set_option maxHeartbeats 4000000
namespace Go.Proofs.Ytolcejcdehfdcaa.A
open Go.RowKit Go.Proofs.Ytolcejcdehfdcaa.P Go.Proofs.YtolcejcdehfdcaaW.PrintWords Go.Proofs.YtolcejcdehfdcaaW.PrintMore Go.Proofs.Ytolcejcdehfdcaa.N Sk Dy
/-! ### awake: calls whose answers the document fixes -/
theorem ok_lit {l : List Int} (h : l.all (fun x => decide (0 ≤ x) && decide (x < 4294967296)) = true) : Ok l := fun x hx => by
  have := List.all_eq_true.1 h x hx
  simp at this; exact this
theorem Snd.to {P : Program} {f : FuncId} {args : List AV} {r r' : AV} (h : Snd P f args r) (e : r = r') : Snd P f args r' := e ▸ h
theorem rA_lit {r : Dy × Int} {neg : Bool} {n : Nat} {l : List Int} {e m : Int} (h : r = (⟨neg, n, e⟩, m)) (hp : parts n = l) : rA r = .t [.g (dL neg l e), .a (iA m)] := by subst h; subst hp; rfl
theorem awake2_snd : Snd Try.prog 8 [] (.a (.b true)) := by
  have o12 : Ok [12] := ok_lit (by decide)
  have o1 : Ok [1] := ok_lit (by decide)
  have o3 : Ok [3] := ok_lit (by decide)
  have o6 : Ok [6] := ok_lit (by decide)
  have c1 := (dplain_snd (na := false) (ea := 3) o12 (by decide)).to (rA_lit (neg := false) (n := 3) (l := [3]) (e := 5) (m := 0) (by decide +kernel) (by decide +kernel))
  have of_ : ∀ (n : Int) (neg : Bool) (m : Nat) (l : List Int) (e : Int), -9223372036854775808 ≤ n → n < 9223372036854775808 → Dy.of n = ⟨neg, m, e⟩ → parts m = l → Snd Try.prog 26 [.a (iA n)] (.g (dL neg l e)) := fun n neg m l e h0 h1 h2 h3 => (dof_snd h0 h1).to (by rw [h2, ← h3])
  have f1 := of_ 1 false 1 [1] 0 (by decide) (by decide) (by decide +kernel) (by decide +kernel)
  have fm3 := of_ (-3) true 3 [3] 0 (by decide) (by decide) (by decide +kernel) (by decide +kernel)
  have f6 := of_ 6 false 3 [3] 1 (by decide) (by decide) (by decide +kernel) (by decide +kernel)
  have f2 := of_ 2 false 1 [1] 1 (by decide) (by decide) (by decide +kernel) (by decide +kernel)
  have f5 := of_ 5 false 5 [5] 0 (by decide) (by decide) (by decide +kernel) (by decide +kernel)
  have fm7 := of_ (-7) true 7 [7] 0 (by decide) (by decide) (by decide +kernel) (by decide +kernel)
  have f4 := of_ 4 false 1 [1] 2 (by decide) (by decide) (by decide +kernel) (by decide +kernel)
  have o5 : Ok [5] := ok_lit (by decide)
  have o7 : Ok [7] := ok_lit (by decide)
  have c2 := (dadd_snd (na := false) (nb := true) (ea := 0) (eb := -1) o1 o1 (by decide) (by decide)).to (rA_lit (neg := false) (n := 1) (l := [1]) (e := -1) (m := 0) (by decide +kernel) (by decide +kernel))
  have c3 := (dmul_snd (na := true) (nb := false) (ea := 0) (eb := 1) o3 o3 (by decide) (by decide)).to (rA_lit (neg := true) (n := 9) (l := [9]) (e := 1) (m := 0) (by decide +kernel) (by decide +kernel))
  have c4 := (dcmp_snd (na := true) (nb := false) (ea := 0) (eb := 1) o3 o1 (by decide) (by decide)).to (r' := cA (-1, 0)) (by rw [show Dy.cmp ⟨true, nv [3], 0⟩ ⟨false, nv [1], 1⟩ = (-1, 0) by decide +kernel])
  have c5 := (dtop_snd (na := false) (ea := 0) o5 (by decide)).to (r' := cA (2, 0)) (by rw [show Dy.top ⟨false, nv [5], 0⟩ = (2, 0) by decide +kernel])
  have c6 := (dtop_snd (na := false) (ea := 0) Ok.nil (by decide)).to (r' := cA (0, 1)) (by rw [show Dy.top ⟨false, nv [], 0⟩ = (0, 1) by decide +kernel])
  have c7 := (dfloor_snd (na := true) (ea := 0) o7 (by decide) 1).to (r' := .t [.g (dL true [3] 1), .a (.b true), .a (iA 0)]) (by rw [show Dy.floor ⟨true, nv [7], 0⟩ 1 = (⟨true, 3, 1⟩, true, 0) by decide +kernel]; show AV.t [.g [.b true, .v .u32 (parts 3), .i .i64 1], _, _] = _; rw [show parts 3 = [3] by decide +kernel])
  have c8 := (dplain_snd (na := false) (ea := 8193) Ok.nil (by decide)).to (rA_lit (neg := false) (n := 0) (l := []) (e := 0) (m := 3) (by decide +kernel) (by decide +kernel))
  have c9 := (dsub_snd (na := false) (nb := false) (ea := 1) (eb := 1) o1 o1 (by decide) (by decide)).to (rA_lit (neg := false) (n := 0) (l := []) (e := 0) (m := 0) (by decide +kernel) (by decide +kernel))
  have c10 := (dsame_snd (na := false) (nb := false) (ea := 2) (eb := 2) o1 o1 (by decide) (by decide)).to (r' := .a (.b true)) (by rw [show Dy.same ⟨false, nv [1], 2⟩ ⟨false, nv [1], 2⟩ = true by decide +kernel])
  have r3 := (rsame_snd (a := [3]) (b := [3]) (by decide)).to (r' := .a (.b true)) rfl
  have r1 := (rsame_snd (a := [1]) (b := [1]) (by decide)).to (r' := .a (.b true)) rfl
  have r9 := (rsame_snd (a := [9]) (b := [9]) (by decide)).to (r' := .a (.b true)) rfl
  refine snd_of ttOk mixed Try.func8 Try.ntmps8 rfl (by kernel_rfl) rfl ?_
  repeat (conv => whnf); first | refine br_tt ?_ | refine br_ff ?_ | refine ⟨_, c1, ?_⟩ | refine ⟨_, c2, ?_⟩ | refine ⟨_, c3, ?_⟩ | refine ⟨_, c4, ?_⟩ | refine ⟨_, c5, ?_⟩ | refine ⟨_, c6, ?_⟩ | refine ⟨_, c7, ?_⟩ | refine ⟨_, c8, ?_⟩ | refine ⟨_, c9, ?_⟩ | refine ⟨_, c10, ?_⟩ | refine ⟨_, f1, ?_⟩ | refine ⟨_, fm3, ?_⟩ | refine ⟨_, f6, ?_⟩ | refine ⟨_, f2, ?_⟩ | refine ⟨_, f5, ?_⟩ | refine ⟨_, fm7, ?_⟩ | refine ⟨_, f4, ?_⟩ | refine ⟨_, r3, ?_⟩ | refine ⟨_, r1, ?_⟩ | refine ⟨_, r9, ?_⟩ | refine And.intro (by kernel_rfl) ?_
  rfl
end Go.Proofs.Ytolcejcdehfdcaa.A
