/- The law DyadSums answers true, at every input of its types. -/
import Derived.Test.YtolcejcdehfdcaaS11
set_option linter.unusedVariables false
set_option linter.unusedSimpArgs false
set_option linter.constructorNameAsVariable false
set_option maxRecDepth 100000
set_option maxHeartbeats 4000000
namespace Go.Proofs.Ytolcejcdehfdcaa.A
open Go.RowKit Go.Proofs.Ytolcejcdehfdcaa.P Go.Proofs.YtolcejcdehfdcaaW.PrintWords Go.Proofs.YtolcejcdehfdcaaW.PrintMore Go.Proofs.Ytolcejcdehfdcaa.N Sk Dy
theorem rcmp2_snd (a b : Dy) : Snd Try.prog 16 [.g (eA a), .g (eA b)] (cA (Dy.cmp a b)) := by
  have va := rmay_snd a
  have vb := rmay_snd b
  refine snd_of ttOk mixed Try.func16 Try.ntmps16 rfl (by kernel_rfl) rfl ?_
  by_cases ma : a.may = true
  case neg =>
    rw [Bool.not_eq_true] at ma
    rw [show Dy.cmp a b = (0, 3) from if_neg (fun h => by rw [ma] at h; exact absurd h.1 (by simp))]
    rw [ma] at va
    repeat (conv => whnf); first | refine ⟨_, va, ?_⟩ | refine br_tt ?_ | refine br_ff ?_ | refine And.intro (by kernel_rfl) ?_
    rfl
  by_cases mb : b.may = true
  case neg =>
    rw [Bool.not_eq_true] at mb
    rw [show Dy.cmp a b = (0, 3) from if_neg (fun h => by rw [mb] at h; exact absurd h.2 (by simp))]
    rw [ma] at va
    rw [mb] at vb
    repeat (conv => whnf); first | refine ⟨_, va, ?_⟩ | refine ⟨_, vb, ?_⟩ | refine br_tt ?_ | refine br_ff ?_ | refine And.intro (by kernel_rfl) ?_
    rfl
  have ba := may_iff.1 ma
  have bb := may_iff.1 mb
  rw [ma] at va
  rw [mb] at vb
  rw [show Dy.cmp a b = (sgn a b, 0) from if_pos ⟨ma, mb⟩]
  have z1 := beq_blen (n := a.n)
  have z2 := beq_blen (n := b.n)
  have hbl : ((bts b.n).length : Int) = nlen b.n := rfl
  have hb0 := nlen_eq_zero (n := b.n)
  by_cases h1 : a.n = 0
  · rw [decide_eq_true h1] at z1
    by_cases h2 : b.n = 0
    · rw [decide_eq_true h2] at z2
      rw [show sgn a b = 0 from if_pos ⟨h1, h2⟩]
      repeat (conv => whnf); first | refine ⟨_, va, ?_⟩ | refine ⟨_, vb, ?_⟩ | refine br_t z1 ?_ | refine br_t z2 ?_ | refine br_tt ?_ | refine br_ff ?_ | refine And.intro (by kernel_rfl) ?_
      rfl
    · rw [decide_eq_false h2] at z2
      rw [show sgn a b = if b.neg = true then 1 else -1 by unfold Dy.sgn; rw [if_neg (fun e => h2 e.2), if_pos h1]]
      cases hs : b.neg with
      | true =>
        rw [if_pos rfl]
        repeat (conv => whnf); first | refine ⟨_, va, ?_⟩ | refine ⟨_, vb, ?_⟩ | refine br_t z1 ?_ | refine br_f z2 ?_ | refine br_t hs ?_ | refine br_tt ?_ | refine br_ff ?_ | refine And.intro (by kernel_rfl) ?_
        rfl
      | false =>
        rw [if_neg (by simp)]
        repeat (conv => whnf); first | refine ⟨_, va, ?_⟩ | refine ⟨_, vb, ?_⟩ | refine br_t z1 ?_ | refine br_f z2 ?_ | refine br_f hs ?_ | refine br_tt ?_ | refine br_ff ?_ | refine And.intro (by kernel_rfl) ?_
        rfl
  rw [decide_eq_false h1] at z1
  have hz : ¬ (a.n = 0 ∧ b.n = 0) := fun e => h1 e.1
  by_cases h2 : b.n = 0
  · have z3 : decide (((bts b.n).length : Int) > 0) = false := decide_eq_false (by omega)
    rw [show sgn a b = if a.neg = true then -1 else 1 by unfold Dy.sgn; rw [if_neg hz, if_neg h1, if_pos (Or.inl h2)]]
    cases hs : a.neg with
    | true =>
      rw [if_pos rfl]
      repeat (conv => whnf); first | refine ⟨_, va, ?_⟩ | refine ⟨_, vb, ?_⟩ | refine br_f z1 ?_ | refine br_f z3 ?_ | refine br_t hs ?_ | refine br_tt ?_ | refine br_ff ?_ | refine And.intro (by kernel_rfl) ?_
      rfl
    | false =>
      rw [if_neg (by simp)]
      repeat (conv => whnf); first | refine ⟨_, va, ?_⟩ | refine ⟨_, vb, ?_⟩ | refine br_f z1 ?_ | refine br_f z3 ?_ | refine br_f hs ?_ | refine br_tt ?_ | refine br_ff ?_ | refine And.intro (by kernel_rfl) ?_
      rfl
  have z3 : decide (((bts b.n).length : Int) > 0) = true := decide_eq_true (by omega)
  by_cases h3 : a.neg = b.neg
  · have z4 : (a.neg == b.neg) = true := by simp [h3]
    rw [sgn_main h1 h2 h3]
    have da := dv_nlen a (min a.e b.e)
    have db := dv_nlen b (min a.e b.e)
    have i1 := rat_snd (d := a) (E := min a.e b.e) (by omega) (by omega) (by omega)
    have i2 := rat_snd (d := b) (E := min a.e b.e) (by omega) (by omega) (by omega)
    have c0 := rcmp_snd (m := a.dv (min a.e b.e)) (n := b.dv (min a.e b.e)) (by omega) (by omega)
    have hmin : (if b.e < a.e then b.e else a.e) = min a.e b.e := bmin _ _
    have hv := sg_vals (a.dv (min a.e b.e)) (b.dv (min a.e b.e))
    rw [← hmin] at i1 i2 c0 hv
    rw [← hmin]
    generalize sg (a.dv (if b.e < a.e then b.e else a.e)) (b.dv (if b.e < a.e then b.e else a.e)) = g at *
    cases hs : a.neg with
    | true =>
      rw [if_pos rfl]
      repeat (conv => whnf); first | refine ⟨_, va, ?_⟩ | refine ⟨_, vb, ?_⟩ | refine ⟨_, i1, ?_⟩ | refine ⟨_, i2, ?_⟩ | refine ⟨_, c0, ?_⟩ | refine br_f z1 ?_ | refine br_t z3 ?_ | refine br_t z4 ?_ | refine br_t hs ?_ | refine br_tt ?_ | refine br_ff ?_ | refine And.intro (by kernel_rfl) ?_
      refine cA_congr ?_
      rcases hv with e | e | e <;> rw [e] <;> decide +kernel
    | false =>
      rw [if_neg (by simp)]
      repeat (conv => whnf); first | refine ⟨_, va, ?_⟩ | refine ⟨_, vb, ?_⟩ | refine ⟨_, i1, ?_⟩ | refine ⟨_, i2, ?_⟩ | refine ⟨_, c0, ?_⟩ | refine br_f z1 ?_ | refine br_t z3 ?_ | refine br_t z4 ?_ | refine br_f hs ?_ | refine br_tt ?_ | refine br_ff ?_ | refine And.intro (by kernel_rfl) ?_
      rfl
  · have z4 : (a.neg == b.neg) = false := by simp [h3]
    rw [show sgn a b = if a.neg = true then -1 else 1 by unfold Dy.sgn; rw [if_neg hz, if_neg h1, if_pos (Or.inr h3)]]
    cases hs : a.neg with
    | true =>
      rw [if_pos rfl]
      repeat (conv => whnf); first | refine ⟨_, va, ?_⟩ | refine ⟨_, vb, ?_⟩ | refine br_f z1 ?_ | refine br_t z3 ?_ | refine br_f z4 ?_ | refine br_t hs ?_ | refine br_tt ?_ | refine br_ff ?_ | refine And.intro (by kernel_rfl) ?_
      rfl
    | false =>
      rw [if_neg (by simp)]
      repeat (conv => whnf); first | refine ⟨_, va, ?_⟩ | refine ⟨_, vb, ?_⟩ | refine br_f z1 ?_ | refine br_t z3 ?_ | refine br_f z4 ?_ | refine br_f hs ?_ | refine br_tt ?_ | refine br_ff ?_ | refine And.intro (by kernel_rfl) ?_
      rfl
theorem large2_snd (neg : Bool) (l : List Int) (e : Int) : Snd Try.prog 9 [.g (dL neg l e)] (.a (.b (decide ((l.length : Int) > 140)))) := by
  refine snd_of ttOk mixed Try.func9 Try.ntmps9 rfl (by kernel_rfl) rfl ?_
  repeat (conv => whnf); first | refine br_tt ?_ | refine br_ff ?_ | refine And.intro (by kernel_rfl) ?_
  rfl
theorem cmp_err (a b : Dy) : (Dy.cmp a b).2 = 0 ∨ (Dy.cmp a b).2 = 3 := by unfold Dy.cmp; split <;> simp
theorem dyadSums_law (na : Bool) (la : List Int) (ea : Int) (nb : Bool) (lb : List Int) (eb : Int) (hwa : ∀ y ∈ la, (Lit.int .u32 y).wf = true) (hya : la.length * 4 ≤ 140737488351232) (hea : (Lit.int .i64 ea).wf = true) (hwb : ∀ y ∈ lb, (Lit.int .u32 y).wf = true) (hyb : lb.length * 4 ≤ 140737488351232) (heb : (Lit.int .i64 eb).wf = true) :
    Snd Try.prog 3 [.g (dL na la ea), .g (dL nb lb eb)] (.a (.b true)) := by
  have ha := ok_of_wf hwa
  have hb := ok_of_wf hwb
  have g1 := large2_snd na la ea
  have g2 := large2_snd nb lb eb
  refine snd_of ttOk mixed Try.func3 Try.ntmps3 rfl (by kernel_rfl) rfl ?_
  by_cases h1 : (la.length : Int) > 140
  · rw [decide_eq_true h1] at g1
    repeat (conv => whnf); first | refine ⟨_, awake2_snd, ?_⟩ | refine ⟨_, g1, ?_⟩ | refine br_tt ?_ | refine br_ff ?_ | refine And.intro (by kernel_rfl) ?_
    rfl
  rw [decide_eq_false h1] at g1
  by_cases h2 : (lb.length : Int) > 140
  · rw [decide_eq_true h2] at g2
    repeat (conv => whnf); first | refine ⟨_, awake2_snd, ?_⟩ | refine ⟨_, g1, ?_⟩ | refine ⟨_, g2, ?_⟩ | refine br_tt ?_ | refine br_ff ?_ | refine And.intro (by kernel_rfl) ?_
    rfl
  rw [decide_eq_false h2] at g2
  have ka : la.length ≤ 1000 := by omega
  have kb : lb.length ≤ 1000 := by omega
  have c1 := dadd_snd (na := na) (nb := nb) (ea := ea) (eb := eb) ha hb ka kb
  have c2 := dsub_snd (na := na) (nb := nb) (ea := ea) (eb := eb) ha hb ka kb
  have c3 := dcmp_snd (na := na) (nb := nb) (ea := ea) (eb := eb) ha hb ka kb
  have c4 := dsame_snd (na := na) (nb := nb) (ea := ea) (eb := eb) ha hb ka kb
  have o1 := own_snd (neg := na) (e := ea) ha (by omega)
  have o2 := own_snd (neg := nb) (e := eb) hb (by omega)
  generalize (⟨na, nv la, ea⟩ : Dy) = a at *
  generalize (⟨nb, nv lb, eb⟩ : Dy) = b at *
  have d1 := radd2_snd a b
  have d2 := radd2_snd a (turned b)
  have d3 := rcmp2_snd a b
  have d4 := rturned_snd b
  have n1 := add_nlen a b
  have n2 := add_nlen a (turned b)
  have i1 := is_snd (Dy.add a b).1 (Dy.add a b).2 (by omega)
  have i2 := is_snd (Dy.add a (turned b)).1 (Dy.add a (turned b)).2 (by omega)
  have hsm : Dy.same a b = (decide ((Dy.cmp a b).1 = 0) && decide ((Dy.cmp a b).2 = 0)) := rfl
  rw [hsm] at c4
  have he := cmp_err a b
  generalize Dy.add a b = p at *
  generalize Dy.add a (turned b) = q at *
  generalize Dy.cmp a b = r at *
  obtain ⟨r1, r2⟩ := r
  dsimp only at c4 he
  have y1 : (r1 == r1) = true := by simp
  have y2 : (r2 == r2) = true := by simp
  by_cases hr : r1 = 0
  · subst hr
    rcases he with e | e
    · subst e
      repeat (conv => whnf); first | refine ⟨_, awake2_snd, ?_⟩ | refine ⟨_, g1, ?_⟩ | refine ⟨_, g2, ?_⟩ | refine ⟨_, c1, ?_⟩ | refine ⟨_, c2, ?_⟩ | refine ⟨_, c3, ?_⟩ | refine ⟨_, c4, ?_⟩ | refine ⟨_, o1, ?_⟩ | refine ⟨_, o2, ?_⟩ | refine ⟨_, d1, ?_⟩ | refine ⟨_, d2, ?_⟩ | refine ⟨_, d3, ?_⟩ | refine ⟨_, d4, ?_⟩ | refine ⟨_, i1, ?_⟩ | refine ⟨_, i2, ?_⟩ | refine br_tt ?_ | refine br_ff ?_ | refine And.intro (by kernel_rfl) ?_
      rfl
    · subst e
      repeat (conv => whnf); first | refine ⟨_, awake2_snd, ?_⟩ | refine ⟨_, g1, ?_⟩ | refine ⟨_, g2, ?_⟩ | refine ⟨_, c1, ?_⟩ | refine ⟨_, c2, ?_⟩ | refine ⟨_, c3, ?_⟩ | refine ⟨_, c4, ?_⟩ | refine ⟨_, o1, ?_⟩ | refine ⟨_, o2, ?_⟩ | refine ⟨_, d1, ?_⟩ | refine ⟨_, d2, ?_⟩ | refine ⟨_, d3, ?_⟩ | refine ⟨_, d4, ?_⟩ | refine ⟨_, i1, ?_⟩ | refine ⟨_, i2, ?_⟩ | refine br_tt ?_ | refine br_ff ?_ | refine And.intro (by kernel_rfl) ?_
      rfl
  · have y3 : (r1 == 0) = false := by simp [hr]
    rw [decide_eq_false hr, Bool.false_and] at c4
    repeat (conv => whnf); first | refine ⟨_, awake2_snd, ?_⟩ | refine ⟨_, g1, ?_⟩ | refine ⟨_, g2, ?_⟩ | refine ⟨_, c1, ?_⟩ | refine ⟨_, c2, ?_⟩ | refine ⟨_, c3, ?_⟩ | refine ⟨_, c4, ?_⟩ | refine ⟨_, o1, ?_⟩ | refine ⟨_, o2, ?_⟩ | refine ⟨_, d1, ?_⟩ | refine ⟨_, d2, ?_⟩ | refine ⟨_, d3, ?_⟩ | refine ⟨_, d4, ?_⟩ | refine ⟨_, i1, ?_⟩ | refine ⟨_, i2, ?_⟩ | refine br_t y1 ?_ | refine br_t y2 ?_ | refine br_f y3 ?_ | refine br_tt ?_ | refine br_ff ?_ | refine And.intro (by kernel_rfl) ?_
    rfl
end Go.Proofs.Ytolcejcdehfdcaa.A
