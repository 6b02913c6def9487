/- The mathematics of the law IeeeExact, for all numbers that may be rounded. -/
import Derived.Test.YtlaffgojgfdlnaaN52
import Derived.Test.YtlaffgojgfdlnaaPx0
set_option linter.unusedVariables false
namespace Go.Proofs.Ytlaffgojgfdlnaa.N
open Go.RowKit Go.Proofs.Ytlaffgojgfdlnaa.P Go.Proofs.YtlaffgojgfdlnaaW.PrintWords Go.Proofs.YtlaffgojgfdlnaaW.PrintMore Sk
open Dy
namespace Fm
section
variable {f : Fm} {a b c : Nat} {mode : Int}
theorem same_ne {a b : Dy} {E x y : Int} (ma : a.may = true) (mb : b.may = true) (ha : Va a E x) (hb : Va b E y) (h : x ≠ y) : Dy.same a b = false := by
  unfold Dy.same
  rw [cmp_va ma mb ha hb]
  have : sI (x - y) ≠ 0 := by unfold sI; split <;> (try split) <;> omega
  simp [this]
/-- What is told is exact just where it isn't inexact; rounded with the sign that was told it is told again. -/
theorem exact_step (h : f.ok) (hm : 0 ≤ mode ∧ mode < 5) {r : Dy} (hr : rmay r = true) (n : Bool) : ∃ b fl, f.rto mode r n = (b, fl, 0) ∧ f.rto mode r (f.sn b) = (b, fl, 0) ∧ b < 2 ^ (f.p + f.w) ∧ (fl = 0 ∨ fl = 1 ∨ fl = 3 ∨ fl = 5) ∧
    ((f.val b = (Dy.zero, 1) ∧ fl ≠ 0) ∨ (f.val b = ((f.val b).1, 0) ∧ Dy.same (f.val b).1 r = decide (fl = 0))) := by
  have hB := bounds h
  obtain ⟨b, fl, e1, b1, b2, b3, b4, b5⟩ := rto_out h hm hr n
  refine ⟨b, fl, e1, ?_, b1, b3, ?_⟩
  · by_cases r0 : r.n = 0
    · rw [b4 r0]; exact e1
    · rw [rto_sign r0 _ n]; exact e1
  obtain ⟨m1, m2, m3⟩ := rmay_iff.1 hr
  obtain ⟨E, hE⟩ : ∃ E, E = min r.e f.low := ⟨_, rfl⟩
  have vr := va_of (a := r) (E := E) (by omega)
  have k := b5 E _ (by omega) vr
  by_cases h3 : f.cl b ≤ 2
  · right
    refine ⟨by rw [val_raw b1 h3], ?_⟩
    by_cases h0 : fl = 0
    · rw [decide_eq_true h0]
      exact same_va (val_may h b) m1 (k.1 h0).2 vr
    · rw [decide_eq_false h0]
      obtain ⟨Y, hY, vY⟩ := k.2 h0 h3
      exact same_ne (val_may h b) m1 vY vr hY
  · left
    refine ⟨?_, fun e => h3 (k.1 e).1⟩
    unfold val; rw [if_neg (by omega), if_pos (by omega)]
end
end Fm
end Go.Proofs.Ytlaffgojgfdlnaa.N
