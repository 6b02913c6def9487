/- The plain law of NatAdds: what the walk computes is true, for all lists of 32-bit parts. -/
import Derived.Test.YtgccgmpfcnhbgaaN8
import Derived.Test.YtgccgmpfcnhbgaaPx8
import Derived.Test.YtgccgmpfcnhbgaaPx0
set_option linter.unusedVariables false
namespace Go.Proofs.Ytgccgmpfcnhbgaa.N
open Go.RowKit Go.Proofs.Ytgccgmpfcnhbgaa.P Go.Proofs.YtgccgmpfcnhbgaaW.PrintWords Go.Proofs.YtgccgmpfcnhbgaaW.PrintMore Sk

theorem plen {n k : Nat} (h : nlen n ≤ 32 * k) : (parts n).length ≤ k := parts_length_le (by rw [B_pow]; exact nlen_le_iff.1 h)
theorem plen' {n k : Nat} (h : nlen n ≤ k) : (parts n).length ≤ k / 32 + 1 := plen (by omega)

theorem NatAdds : slipsticklaw01_NatAdds.Pure := by
  intro l0 l1 m0 r0 w0 m1 r1 w1
  have o0 := ok_of_wf w0
  have o1 := ok_of_wf w1
  clear m0 r0 w0 m1 r1 w1
  refine Ev.ex (g := fun k => slipsticklaw01_NatAdds.f k l0 l1) ?_
  unfold slipsticklaw01_NatAdds.f
  refine Ev.bind awake1 (Ev.pos rfl ?_)
  have j : ∀ b, (b = false → l0.length ≤ 24 ∧ l1.length ≤ 24) → Ev (fun k => slipsticklaw01_NatAdds.j0 k l0 l1 b) true := by
    intro b hb
    refine Ev.succ ?_
    simp only [slipsticklaw01_NatAdds.j0]
    cases b with
    | true => exact Ev.pos rfl (Ev.done _)
    | false =>
      obtain ⟨h0, h1⟩ := hb rfl
      have n0 := nlen_nv o0
      have n1 := nlen_nv o1
      have e0 : (bts (nv l0)).length = nlen (nv l0) := rfl
      have e1 : (bts (nv l1)).length = nlen (nv l1) := rfl
      refine Ev.neg (by simp) (Ev.bind (rof_ev o0 (by omega)) (Ev.bind (rof_ev o1 (by omega)) (Ev.bind (sub_ev o0 o1 (by omega) (by omega)) (Ev.bind (mul_ev o0 o1 (by omega) (by omega)) (Ev.bind (rcmp_ev (by omega) (by omega)) ?_)))))
      rw [bv_bits, bv_bits, if_neg (show ¬ (nlen (nv l0) + nlen (nv l1) > 16384) by omega)]
      have hm := nlen_mul_le (nv l0) (nv l1)
      have ha := nlen_add_le (nv l0) (nv l1)
      dsimp only
      have j1 : Ev (fun k => slipsticklaw01_NatAdds.j1 k l0 l1 (bts (nv l0)) (bts (nv l1)) (parts (nv l0 * nv l1)) 0) true := by
        refine Ev.succ ?_
        simp only [slipsticklaw01_NatAdds.j1]
        have pm := plen' hm
        have pa := plen' ha
        refine Ev.pos (by simp) (Ev.bind (rmul_ev (by omega) (by omega)) (Ev.bind (rparts_ev (by omega)) (Ev.bind (rsame_ev (by omega)) (Ev.pos (by simp) ?_))))
        refine Ev.bind (add_ev o0 o1 (by omega) (by omega)) (Ev.bind (radd_ev (by omega) (by omega)) ?_)
        rw [bv_bits, bv_bits]
        refine Ev.bind (rparts_ev (by omega)) (Ev.bind (rsame_ev (by omega)) (Ev.pos (by simp) ?_))
        refine Ev.bind (cmp_ev o0 o1 (by omega) (by omega)) (Ev.bind (rcmp_ev (by omega) (by omega)) ?_)
        rw [bv_bits, bv_bits, beq_self_eq_true]
        exact Ev.done _
      by_cases h : nv l0 < nv l1
      · rw [if_pos h]
        exact Ev.pos (sg_neg.2 h) (Ev.pos rfl (Ev.pos rfl j1))
      · rw [if_neg h]
        dsimp only
        refine Ev.neg (fun h2 => h (sg_neg.1 h2)) (Ev.pos rfl (Ev.bind (rsub_ev (by omega) (by rw [bv_bits, bv_bits]; omega)) ?_))
        rw [bv_bits, bv_bits]
        have hs : nlen (nv l0 - nv l1) ≤ nlen (nv l0) := nlen_mono (by omega)
        have ps := plen' hs
        exact Ev.bind (rparts_ev (by omega)) (Ev.bind (rsame_ev (by omega)) (Ev.pos (by simp) j1))
  by_cases h : (l0.length : Int) > 24
  · exact Ev.pos h (j true (fun e => by cases e))
  · exact Ev.neg h (j _ (fun e => by have := of_decide_eq_false e; omega))

end Go.Proofs.Ytgccgmpfcnhbgaa.N
