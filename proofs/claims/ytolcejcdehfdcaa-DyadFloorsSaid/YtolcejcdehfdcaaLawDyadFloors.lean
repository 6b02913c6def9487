/- The law DyadFloors holds: it returns true at every input of its types, with the statement's own conditions on the inputs and no others. -/
import Derived.Test.YtolcejcdehfdcaaRows
import Derived.Test.YtolcejcdehfdcaaS7
import Derived.WalkKit
import Derived.ProofKit
import Derived.OpenShut
import Derived.ShutString
import Derived.ChangeOld
import Derived.Below
import Derived.SizedLaws
import Derived.Test.YtolcejcdehfdcaaWSized
import Derived.Test.YtolcejcdehfdcaaOpenDy
namespace Go.Proofs.Ytolcejcdehfdcaa.dyadFloors
open Go.ChangeShapes Go.WideShapes Go.ChangeAt Go.RowKit Go.Proofs.YtolcejcdehfdcaaW.PrintWords Go.Proofs.YtolcejcdehfdcaaW.PrintMore
open Go.ChangeMaps (open_string shut_string)
set_option linter.unusedVariables false
theorem own : ownKnob Try.prog.godebug = none := by kernel_rfl
theorem laidOut : laidOutB Try.prog = true := by kernel_rfl
set_option maxRecDepth 100000 in
theorem lifted (os : Os) (started : os.Started) (H : Type) (enc : TypeId × Value → H) :
    ReturnsInHanded {} Try.checked os 7 .any (Rows.dyadFloorsSpec.pre6 enc Try.prog Try.f7 Rows.dyadFloorsRow.domain false) (Rows.dyadFloorsSpec.post enc Try.prog Try.f7 false true false false) := by
  refine returnsInHanded_of_change_sized (C := Try.checked) own started (by kernel_rfl) Try.func7
    (ChangeSpec.witness6 (enc := enc) (C := Try.checked) false ⟨#[], #[.agg #[.bool false, .slice none 0 0, .int .i64 0], .int .i16 0], []⟩ 8 (by kernel_rfl) (by kernel_rfl) (by kernel_rfl) (by kernel_rfl)) ?_
  intro W base args ds gs before hval0 hW hcnd hsz0 _
  have hsz : (DataW.weightsEach Try.prog (Try.f7.params.toList ++ Rows.dyadFloorsSpec.plain.varTypes Try.prog) (ds ++ gs)).all (· ≤ reachBytes) = true := hsz0
  have hval : ∀ (j : Nat) t v, Try.f7.params[j]? = some t → args[j]? = some v → Value.okWide Try.prog W .any base t v := hval0
  have hW' := hW
  obtain ⟨p, q, hA0, hV, rfl, hfz, hnd⟩ := hW
  have hA : DataW.TrodAll enc Try.prog W 0 (fun _ => true) true Try.f7.params.toList args.toList ds p := hA0
  rw [Try.params7] at hA hval hsz
  obtain ⟨v0, vs0, d0, ds0, p0, q0, hargs, rfl, rfl, h0, r0⟩ := trodAll_cons hA
  obtain ⟨v1, vs1, d1, ds1, p1, q1, rfl, rfl, rfl, h1, r1⟩ := trodAll_cons r0
  obtain ⟨rfl, rfl, rfl⟩ := trodAll_nil r1
  obtain rfl : args = #[v0, v1] := by cases args; simp_all
  obtain ⟨rfl, rfl⟩ := trodVars_none hV
  have k0 := h0
  have lt0 : ∀ x ∈ p0, x.block < W.heap.size := by obtain ⟨m, hm⟩ := k0; exact DataW.trod_lt m _ _ _ hm
  obtain ⟨a0_0, a0_1, len0_1, cap0_1, z0_1, a0_2, rfl, w0_1, y0_1, w0_2⟩ := Dyads.open_dyad (e := 61) Try.underlying25 rfl rfl rfl (by kernel_rfl) (by kernel_rfl) (by kernel_rfl) (by kernel_rfl) (by kernel_rfl) (by kernel_rfl) Try.underlying61 (by kernel_rfl) (by kernel_rfl) (by kernel_rfl) (hval 0 25 v0 rfl rfl) h0 hsz (j := 0) rfl rfl
  obtain ⟨l0, rfl, hr0, hm0, hw0, hc0⟩ := ReadsInt.ofRowC w0_1
  obtain ⟨a1, rfl, rfl, rfl, w1⟩ := open_int Try.underlying59 (hval 1 59 v1 rfl rfl) h1
  clear hA0 hval0 hsz0 hsz
  refine ((A.dyadFloors_law a0_0 l0 a0_2 a1 hw0 y0_1 w0_2 w1).2 W (fun k => k < W.heap.size) [.agg #[.bool a0_0, .slice a0_1 l0.length cap0_1, .int .i64 a0_2], .int .i16 a1] ⟨⟨#[.bool a0_0, .slice a0_1 l0.length cap0_1, .int .i64 a0_2], rfl, rfl, ⟨_, _, rfl, hc0, Kd.C_F (Kd.heap_int _) (Kd.C_of_reads (d := (0 : Int)) (h1 := fun _ => rfl) hr0)⟩, rfl, trivial⟩, rfl, trivial⟩).mono ?_
  rintro e W' ⟨v, rfl, hv, bel⟩
  have hv' : v = .bool true := hv
  subst hv'
  exact ⟨_, rfl, _, _, _, [], _, [], hW', trodAll_mk1 (shut_bool Try.underlying4 _), (trodAll_cons_mk (Below.trod laidOut (by kernel_rfl) (of_decide_eq_true (by kernel_rfl)) k0 bel lt0) (trodAll_cons_mk (shut_int Try.underlying59 w1) trodAll_mk0)), rfl, bel.frame _, fun h => by cases h⟩
theorem over : Rows.dyadFloorsRow.holds Try.pinned (OpenSpec.ofChange Rows.dyadFloorsSpec) :=
  OpenClaim.holds_of_wide 7 Try.f7 rfl rfl rfl rfl rfl rfl rfl ⟨rfl, rfl, rfl, rfl, rfl⟩ rfl rfl rfl rfl rfl (by kernel_rfl) Try.func7 (by kernel_rfl)
    (of_decide_eq_true (by kernel_rfl)) (by unfold Func.isWrapper; first | (rw [if_pos (by decide +kernel)]; kernel_rfl) | (rw [if_neg (by decide +kernel)]; exact ⟨rfl, rfl⟩))
    (fun os started H enc _ => lifted os started H enc)
theorem proved : Rows.DyadFloorsSaid := over
#print axioms proved
end Go.Proofs.Ytolcejcdehfdcaa.dyadFloors
namespace Go.Proofs.Ytolcejcdehfdcaa
/-- The row, under a short name, for the claim. -/
theorem dyadFloors_holds : Rows.DyadFloorsSaid := dyadFloors.proved
end Go.Proofs.Ytolcejcdehfdcaa
