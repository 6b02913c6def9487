/- The law DyadSums answers true, at every input of its types. -/
import Derived.Test.YtlaffgojgfdlnaaGreatS11
set_option linter.unusedVariables false
set_option linter.unusedSimpArgs false
set_option linter.constructorNameAsVariable false
set_option maxRecDepth 100000
set_option maxHeartbeats 4000000
namespace Go.Proofs.YtlaffgojgfdlnaaGreat.A
open Go.RowKit Go.Proofs.YtlaffgojgfdlnaaGreat.P Go.Proofs.YtlaffgojgfdlnaaGreatW.PrintWords Go.Proofs.YtlaffgojgfdlnaaGreatW.PrintMore Go.Proofs.YtlaffgojgfdlnaaGreat.N Sk Dy
theorem rcmp2_snd (a b : Dy) : Snd Tryz.prog 88 [.g (eA a), .g (eA b)] (cA (Dy.cmp a b)) := by
  have va := rmay_snd a
  have vb := rmay_snd b
  refine snd_of ttOk mixed Tryz.func88 Tryz.ntmps88 rfl (by kernel_rfl) rfl ?_
  by_cases ma : a.may = true
  case neg =>
    rw [Bool.not_eq_true] at ma
    rw [show Dy.cmp a b = (0, 3) from if_neg (fun h => by rw [ma] at h; exact absurd h.1 (by simp))]
    rw [ma] at va
    repeat (conv => whnf); first | refine ⟨_, va, ?_⟩ | refine br_tt ?_ | refine br_ff ?_ | refine And.intro (by kernel_rfl) ?_
    rfl
  by_cases mb : b.may = true
  case neg =>
    rw [Bool.not_eq_true] at mb
    rw [show Dy.cmp a b = (0, 3) from if_neg (fun h => by rw [mb] at h; exact absurd h.2 (by simp))]
    rw [ma] at va
    rw [mb] at vb
    repeat (conv => whnf); first | refine ⟨_, va, ?_⟩ | refine ⟨_, vb, ?_⟩ | refine br_tt ?_ | refine br_ff ?_ | refine And.intro (by kernel_rfl) ?_
    rfl
  have ba := may_iff.1 ma
  have bb := may_iff.1 mb
  rw [ma] at va
  rw [mb] at vb
  rw [show Dy.cmp a b = (sgn a b, 0) from if_pos ⟨ma, mb⟩]
  have z1 := beq_blen (n := a.n)
  have z2 := beq_blen (n := b.n)
  have hbl : ((bts b.n).length : Int) = nlen b.n := rfl
  have hb0 := nlen_eq_zero (n := b.n)
  by_cases h1 : a.n = 0
  · rw [decide_eq_true h1] at z1
    by_cases h2 : b.n = 0
    · rw [decide_eq_true h2] at z2
      rw [show sgn a b = 0 from if_pos ⟨h1, h2⟩]
      repeat (conv => whnf); first | refine ⟨_, va, ?_⟩ | refine ⟨_, vb, ?_⟩ | refine br_t z1 ?_ | refine br_t z2 ?_ | refine br_tt ?_ | refine br_ff ?_ | refine And.intro (by kernel_rfl) ?_
      rfl
    · rw [decide_eq_false h2] at z2
      rw [show sgn a b = if b.neg = true then 1 else -1 by unfold Dy.sgn; rw [if_neg (fun e => h2 e.2), if_pos h1]]
      cases hs : b.neg with
      | true =>
        rw [if_pos rfl]
        repeat (conv => whnf); first | refine ⟨_, va, ?_⟩ | refine ⟨_, vb, ?_⟩ | refine br_t z1 ?_ | refine br_f z2 ?_ | refine br_t hs ?_ | refine br_tt ?_ | refine br_ff ?_ | refine And.intro (by kernel_rfl) ?_
        rfl
      | false =>
        rw [if_neg (by simp)]
        repeat (conv => whnf); first | refine ⟨_, va, ?_⟩ | refine ⟨_, vb, ?_⟩ | refine br_t z1 ?_ | refine br_f z2 ?_ | refine br_f hs ?_ | refine br_tt ?_ | refine br_ff ?_ | refine And.intro (by kernel_rfl) ?_
        rfl
  rw [decide_eq_false h1] at z1
  have hz : ¬ (a.n = 0 ∧ b.n = 0) := fun e => h1 e.1
  by_cases h2 : b.n = 0
  · have z3 : decide (((bts b.n).length : Int) > 0) = false := decide_eq_false (by omega)
    rw [show sgn a b = if a.neg = true then -1 else 1 by unfold Dy.sgn; rw [if_neg hz, if_neg h1, if_pos (Or.inl h2)]]
    cases hs : a.neg with
    | true =>
      rw [if_pos rfl]
      repeat (conv => whnf); first | refine ⟨_, va, ?_⟩ | refine ⟨_, vb, ?_⟩ | refine br_f z1 ?_ | refine br_f z3 ?_ | refine br_t hs ?_ | refine br_tt ?_ | refine br_ff ?_ | refine And.intro (by kernel_rfl) ?_
      rfl
    | false =>
      rw [if_neg (by simp)]
      repeat (conv => whnf); first | refine ⟨_, va, ?_⟩ | refine ⟨_, vb, ?_⟩ | refine br_f z1 ?_ | refine br_f z3 ?_ | refine br_f hs ?_ | refine br_tt ?_ | refine br_ff ?_ | refine And.intro (by kernel_rfl) ?_
      rfl
  have z3 : decide (((bts b.n).length : Int) > 0) = true := decide_eq_true (by omega)
  by_cases h3 : a.neg = b.neg
  · have z4 : (a.neg == b.neg) = true := by simp [h3]
    rw [sgn_main h1 h2 h3]
    have da := dv_nlen a (min a.e b.e)
    have db := dv_nlen b (min a.e b.e)
    have i1 := rat_snd (d := a) (E := min a.e b.e) (by omega) (by omega) (by omega)
    have i2 := rat_snd (d := b) (E := min a.e b.e) (by omega) (by omega) (by omega)
    have c0 := rcmp_snd (m := a.dv (min a.e b.e)) (n := b.dv (min a.e b.e)) (by omega) (by omega)
    have hmin : (if b.e < a.e then b.e else a.e) = min a.e b.e := bmin _ _
    have hv := sg_vals (a.dv (min a.e b.e)) (b.dv (min a.e b.e))
    rw [← hmin] at i1 i2 c0 hv
    rw [← hmin]
    generalize sg (a.dv (if b.e < a.e then b.e else a.e)) (b.dv (if b.e < a.e then b.e else a.e)) = g at *
    cases hs : a.neg with
    | true =>
      rw [if_pos rfl]
      repeat (conv => whnf); first | refine ⟨_, va, ?_⟩ | refine ⟨_, vb, ?_⟩ | refine ⟨_, i1, ?_⟩ | refine ⟨_, i2, ?_⟩ | refine ⟨_, c0, ?_⟩ | refine br_f z1 ?_ | refine br_t z3 ?_ | refine br_t z4 ?_ | refine br_t hs ?_ | refine br_tt ?_ | refine br_ff ?_ | refine And.intro (by kernel_rfl) ?_
      refine cA_congr ?_
      rcases hv with e | e | e <;> rw [e] <;> decide +kernel
    | false =>
      rw [if_neg (by simp)]
      repeat (conv => whnf); first | refine ⟨_, va, ?_⟩ | refine ⟨_, vb, ?_⟩ | refine ⟨_, i1, ?_⟩ | refine ⟨_, i2, ?_⟩ | refine ⟨_, c0, ?_⟩ | refine br_f z1 ?_ | refine br_t z3 ?_ | refine br_t z4 ?_ | refine br_f hs ?_ | refine br_tt ?_ | refine br_ff ?_ | refine And.intro (by kernel_rfl) ?_
      rfl
  · have z4 : (a.neg == b.neg) = false := by simp [h3]
    rw [show sgn a b = if a.neg = true then -1 else 1 by unfold Dy.sgn; rw [if_neg hz, if_neg h1, if_pos (Or.inr h3)]]
    cases hs : a.neg with
    | true =>
      rw [if_pos rfl]
      repeat (conv => whnf); first | refine ⟨_, va, ?_⟩ | refine ⟨_, vb, ?_⟩ | refine br_f z1 ?_ | refine br_t z3 ?_ | refine br_f z4 ?_ | refine br_t hs ?_ | refine br_tt ?_ | refine br_ff ?_ | refine And.intro (by kernel_rfl) ?_
      rfl
    | false =>
      rw [if_neg (by simp)]
      repeat (conv => whnf); first | refine ⟨_, va, ?_⟩ | refine ⟨_, vb, ?_⟩ | refine br_f z1 ?_ | refine br_t z3 ?_ | refine br_f z4 ?_ | refine br_f hs ?_ | refine br_tt ?_ | refine br_ff ?_ | refine And.intro (by kernel_rfl) ?_
      rfl
end Go.Proofs.YtlaffgojgfdlnaaGreat.A
