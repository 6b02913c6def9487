/- The program's own questions of layer 1 are answered yes: it is awake. -/
import Derived.Test.YtgccgmpfcnhbgaaN7
import Derived.Test.YtgccgmpfcnhbgaaPx5
import Derived.Test.YtgccgmpfcnhbgaaPx0
set_option linter.unusedVariables false
namespace Go.Proofs.Ytgccgmpfcnhbgaa.N
open Go.RowKit Go.Proofs.Ytgccgmpfcnhbgaa.P Go.Proofs.YtgccgmpfcnhbgaaW.PrintWords Go.Proofs.YtgccgmpfcnhbgaaW.PrintMore Sk

theorem ok_of_wf {l : List Int} (h : ∀ x ∈ l, (Lit.int .u32 x).wf = true) : Ok l := by
  intro x hx
  have := h x hx
  simp [Lit.wf, IntKind.min, IntKind.max, IntKind.signed, IntKind.bits] at this
  omega

theorem Ev.of_mono {α : Type} {g : Nat → Option α} {r : α} (hm : ∀ k, LeO (g k) (g (k + 1))) (K : Nat) (h : g K = some r) : Ev g r :=
  ⟨K, fun k hk => by
    obtain ⟨j, rfl⟩ : ∃ j, k = K + j := ⟨k - K, by omega⟩
    exact more_rounds hm K j _ h⟩

theorem awake1 : Ev (fun k => slipsticklaw01_awake.f k) true := Ev.of_mono slipsticklaw01_awake.mono 200 (by decide +kernel)
end Go.Proofs.Ytgccgmpfcnhbgaa.N
