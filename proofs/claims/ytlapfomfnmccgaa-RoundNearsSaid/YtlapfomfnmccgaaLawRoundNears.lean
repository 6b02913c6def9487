/- The law RoundNears holds: it returns true at every input of its types, with the statement's own conditions on the inputs and no others. -/
import Derived.Test.YtlapfomfnmccgaaRows
import Derived.Test.YtlapfomfnmccgaaS27
import Derived.WalkKit
import Derived.ProofKit
import Derived.OpenShut
import Derived.ShutString
import Derived.ChangeOld
import Derived.Below
import Derived.SizedLaws
import Derived.Test.YtlapfomfnmccgaaWSized
import Derived.Test.YtlapfomfnmccgaaOpenDy
namespace Go.Proofs.Ytlapfomfnmccgaa.roundNears
open Go.ChangeShapes Go.WideShapes Go.ChangeAt Go.RowKit Go.Proofs.YtlapfomfnmccgaaW.PrintWords Go.Proofs.YtlapfomfnmccgaaW.PrintMore
open Go.ChangeMaps (open_string shut_string)
set_option linter.unusedVariables false
theorem own : ownKnob Try.prog.godebug = none := by kernel_rfl
theorem laidOut : laidOutB Try.prog = true := by kernel_rfl
set_option maxRecDepth 100000 in
theorem lifted (os : Os) (started : os.Started) (H : Type) (enc : TypeId × Value → H) :
    ReturnsInHanded {} Try.checked os 3 .any (Rows.roundNearsSpec.pre6 enc Try.prog Try.f3 Rows.roundNearsRow.domain false) (Rows.roundNearsSpec.post enc Try.prog Try.f3 false true false false) := by
  refine returnsInHanded_of_change_sized (C := Try.checked) own started (by kernel_rfl) Try.func3
    (ChangeSpec.witness6 (enc := enc) (C := Try.checked) false ⟨#[], #[.int .i64 0, .agg #[.bool false, .slice none 0 0, .int .i64 0]], []⟩ 8 (by kernel_rfl) (by kernel_rfl) (by kernel_rfl) (by kernel_rfl)) ?_
  intro W base args ds gs before hval0 hW hcnd hsz0 _
  have hsz : (DataW.weightsEach Try.prog (Try.f3.params.toList ++ Rows.roundNearsSpec.plain.varTypes Try.prog) (ds ++ gs)).all (· ≤ reachBytes) = true := hsz0
  have hval : ∀ (j : Nat) t v, Try.f3.params[j]? = some t → args[j]? = some v → Value.okWide Try.prog W .any base t v := hval0
  have hW' := hW
  obtain ⟨p, q, hA0, hV, rfl, hfz, hnd⟩ := hW
  have hA : DataW.TrodAll enc Try.prog W 0 (fun _ => true) true Try.f3.params.toList args.toList ds p := hA0
  rw [Try.params3] at hA hval hsz
  obtain ⟨v0, vs0, d0, ds0, p0, q0, hargs, rfl, rfl, h0, r0⟩ := trodAll_cons hA
  obtain ⟨v1, vs1, d1, ds1, p1, q1, rfl, rfl, rfl, h1, r1⟩ := trodAll_cons r0
  obtain ⟨rfl, rfl, rfl⟩ := trodAll_nil r1
  obtain rfl : args = #[v0, v1] := by cases args; simp_all
  obtain ⟨rfl, rfl⟩ := trodVars_none hV
  obtain ⟨a0, rfl, rfl, rfl, w0⟩ := open_int Try.underlying3 (hval 0 3 v0 rfl rfl) h0
  have k1 := h1
  have lt1 : ∀ x ∈ p1, x.block < W.heap.size := by obtain ⟨m, hm⟩ := k1; exact DataW.trod_lt m _ _ _ hm
  obtain ⟨a1_0, a1_1, len1_1, cap1_1, z1_1, a1_2, rfl, w1_1, y1_1, w1_2⟩ := Dyads.open_dyad (e := 86) Try.underlying25 rfl rfl rfl (by kernel_rfl) (by kernel_rfl) (by kernel_rfl) (by kernel_rfl) (by kernel_rfl) (by kernel_rfl) Try.underlying86 (by kernel_rfl) (by kernel_rfl) (by kernel_rfl) (hval 1 25 v1 rfl rfl) h1 hsz (j := 1) rfl rfl
  obtain ⟨l1, rfl, hr1, hm1, hw1, hc1⟩ := ReadsInt.ofRowC w1_1
  clear hA0 hval0 hsz0 hsz
  refine ((A.roundNears_law a0 a1_0 l1 a1_2 w0 hw1 y1_1 w1_2).2 W (fun k => k < W.heap.size) [.int .i64 a0, .agg #[.bool a1_0, .slice a1_1 l1.length cap1_1, .int .i64 a1_2]] ⟨rfl, ⟨#[.bool a1_0, .slice a1_1 l1.length cap1_1, .int .i64 a1_2], rfl, rfl, ⟨_, _, rfl, hc1, Kd.C_F (Kd.heap_int _) (Kd.C_of_reads (d := (0 : Int)) (h1 := fun _ => rfl) hr1)⟩, rfl, trivial⟩, trivial⟩).mono ?_
  rintro e W' ⟨v, rfl, hv, bel⟩
  have hv' : v = .bool true := hv
  subst hv'
  exact ⟨_, rfl, _, _, _, [], _, [], hW', trodAll_mk1 (shut_bool Try.underlying4 _), (trodAll_cons_mk (shut_int Try.underlying3 w0) (trodAll_cons_mk (Below.trod laidOut (by kernel_rfl) (of_decide_eq_true (by kernel_rfl)) k1 bel lt1) trodAll_mk0)), rfl, bel.frame _, fun h => by cases h⟩
theorem over : Rows.roundNearsRow.holds Try.pinned (OpenSpec.ofChange Rows.roundNearsSpec) :=
  OpenClaim.holds_of_wide 3 Try.f3 rfl rfl rfl rfl rfl rfl rfl ⟨rfl, rfl, rfl, rfl, rfl⟩ rfl rfl rfl rfl rfl (by kernel_rfl) Try.func3 (by kernel_rfl)
    (of_decide_eq_true (by kernel_rfl)) (by unfold Func.isWrapper; first | (rw [if_pos (by decide +kernel)]; kernel_rfl) | (rw [if_neg (by decide +kernel)]; exact ⟨rfl, rfl⟩))
    (fun os started H enc _ => lifted os started H enc)
theorem proved : Rows.RoundNearsSaid := over
#print axioms proved
end Go.Proofs.Ytlapfomfnmccgaa.roundNears
namespace Go.Proofs.Ytlapfomfnmccgaa
/-- The row, under a short name, for the claim. -/
theorem roundNears_holds : Rows.RoundNearsSaid := roundNears.proved
end Go.Proofs.Ytlapfomfnmccgaa
