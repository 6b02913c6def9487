/- The law DyadTells answers true, at every input of its types. -/
import Derived.Test.YtolcejcdehfdcaaS12
set_option linter.unusedVariables false
set_option linter.unusedSimpArgs false
set_option linter.constructorNameAsVariable false
set_option maxRecDepth 100000
set_option maxHeartbeats 4000000
namespace Go.Proofs.Ytolcejcdehfdcaa.A
open Go.RowKit Go.Proofs.Ytolcejcdehfdcaa.P Go.Proofs.YtolcejcdehfdcaaW.PrintWords Go.Proofs.YtolcejcdehfdcaaW.PrintMore Go.Proofs.Ytolcejcdehfdcaa.N Sk Dy
theorem dyadTells_law (na : Bool) (la : List Int) (ea : Int) (nb : Bool) (lb : List Int) (eb : Int) (at_ n : Int) (hwa : ∀ y ∈ la, (Lit.int .u32 y).wf = true) (hya : la.length * 4 ≤ 140737488351232) (hea : (Lit.int .i64 ea).wf = true) (hwb : ∀ y ∈ lb, (Lit.int .u32 y).wf = true) (hyb : lb.length * 4 ≤ 140737488351232) (heb : (Lit.int .i64 eb).wf = true) (hat : (Lit.int .i64 at_).wf = true) (hn : (Lit.int .i64 n).wf = true) :
    Snd Try.prog 4 [.g (dL na la ea), .g (dL nb lb eb), .a (iA at_), .a (iA n)] (.a (.b true)) := by
  have ha := ok_of_wf hwa
  have hb := ok_of_wf hwb
  have hn := wf_i64 hn
  refine snd_of ttOk mixed Try.func4 Try.ntmps4 rfl (by kernel_rfl) rfl ?_
  by_cases h1 : (la.length : Int) > 70
  · have z1 := decide_eq_true h1
    repeat (conv => whnf); first | refine ⟨_, awake2_snd, ?_⟩ | refine br_t z1 ?_ | refine br_tt ?_ | refine br_ff ?_ | refine And.intro (by kernel_rfl) ?_
    rfl
  have z1 := decide_eq_false h1
  by_cases h2 : (lb.length : Int) > 70
  · have z2 := decide_eq_true h2
    repeat (conv => whnf); first | refine ⟨_, awake2_snd, ?_⟩ | refine br_f z1 ?_ | refine br_t z2 ?_ | refine br_tt ?_ | refine br_ff ?_ | refine And.intro (by kernel_rfl) ?_
    rfl
  have z2 := decide_eq_false h2
  have ka : la.length ≤ 1000 := by omega
  have kb : lb.length ≤ 1000 := by omega
  have hal := nlen_nv ha
  have c1 := dmul_snd (na := na) (nb := nb) (ea := ea) (eb := eb) ha hb ka kb
  have c2 := dplain_snd (na := na) (ea := ea) ha ka
  have c3 := dtop_snd (na := na) (ea := ea) ha ka
  have c4 := dfloor_snd (na := na) (ea := ea) ha ka at_
  have c5 := dof_snd hn.1 hn.2
  have o1 := own_snd (neg := na) (e := ea) ha (by omega)
  have o2 := own_snd (neg := nb) (e := eb) hb (by omega)
  obtain ⟨a, hA⟩ : ∃ a, a = (⟨na, nv la, ea⟩ : Dy) := ⟨_, rfl⟩
  rw [← hA] at c1 c2 c3 c4 o1
  generalize (⟨nb, nv lb, eb⟩ : Dy) = b at *
  have d1 := rmul2_snd a b
  have d3 := rtop_snd a
  have d4 := rfloor_snd a at_
  have hw := rword_snd (n := ((n.natAbs : Nat) : Int)) (by omega) (by omega)
  rw [Int.toNat_natCast] at hw
  have hn64 : nlen n.natAbs ≤ 64 := nlen_le (by omega)
  have d5 := rplain_snd (d := ⟨decide (n < 0), n.natAbs, 0⟩) (by dsimp only; omega) (by dsimp only; omega)
  change Snd _ _ _ (.g (eA (Dy.of n))) at d5
  have m1 := mul_nlen a b
  have m4 := floor_nlen a at_
  have m5 : nlen (Dy.of n).n ≤ 64 := by have := plain_nlen_le ⟨decide (n < 0), n.natAbs, 0⟩; exact Nat.le_trans this hn64
  have i1 := is_snd (Dy.mul a b).1 (Dy.mul a b).2 (by omega)
  have i4 := is_snd (Dy.floor a at_).1 (Dy.floor a at_).2.2 (by omega)
  have i5 := is_snd (Dy.of n) 0 (by omega)
  have dm := rmay_snd a
  generalize Dy.mul a b = p at *
  generalize Dy.floor a at_ = q at *
  generalize Dy.top a = r at *
  generalize Dy.of n = s at *
  have y1 : (!(r.1 == r.1)) = false := by simp
  have y2 : (!(r.2 == r.2)) = false := by simp
  have y1' : (r.1 != r.1) = false := by simp
  have y2' : (r.2 != r.2) = false := by simp
  have y3 : (!(q.2.1 == q.2.1)) = false := by simp
  have wn : ∃ w : Int, w = ((n.natAbs : Nat) : Int) ∧ ((n < 0 ∧ IntKind.wrap .u64 (0 - IntKind.wrap .u64 n) = w) ∨ (¬ n < 0 ∧ IntKind.wrap .u64 n = w)) := by
    refine ⟨_, rfl, ?_⟩
    simp only [IntKind.wrap_u64]
    omega
  obtain ⟨w, ew, hcase⟩ := wn
  rw [← ew] at hw
  by_cases ma : a.may = true
  case neg =>
    rw [if_neg ma, rA_zero] at c2
    rw [Bool.not_eq_true] at ma
    rw [ma] at dm
    rcases hcase with ⟨hneg, e⟩ | ⟨hneg, e⟩
    · have zn := decide_eq_true hneg
      rw [← e] at hw
      repeat (conv => whnf); first | refine ⟨_, awake2_snd, ?_⟩ | refine ⟨_, c1, ?_⟩ | refine ⟨_, c2, ?_⟩ | refine ⟨_, c3, ?_⟩ | refine ⟨_, c4, ?_⟩ | refine ⟨_, c5, ?_⟩ | refine ⟨_, o1, ?_⟩ | refine ⟨_, o2, ?_⟩ | refine ⟨_, d1, ?_⟩ | refine ⟨_, d3, ?_⟩ | refine ⟨_, d4, ?_⟩ | refine ⟨_, d5, ?_⟩ | refine ⟨_, hw, ?_⟩ | refine ⟨_, i1, ?_⟩ | refine ⟨_, i4, ?_⟩ | refine ⟨_, i5, ?_⟩ | refine ⟨_, dm, ?_⟩ | refine br_f z1 ?_ | refine br_f z2 ?_ | refine br_t zn ?_ | refine br_f y1' ?_ | refine br_f y2' ?_ | refine br_f y3 ?_ | refine br_tt ?_ | refine br_ff ?_ | refine And.intro (by kernel_rfl) ?_
      rfl
    · have zn := decide_eq_false hneg
      rw [← e] at hw
      repeat (conv => whnf); first | refine ⟨_, awake2_snd, ?_⟩ | refine ⟨_, c1, ?_⟩ | refine ⟨_, c2, ?_⟩ | refine ⟨_, c3, ?_⟩ | refine ⟨_, c4, ?_⟩ | refine ⟨_, c5, ?_⟩ | refine ⟨_, o1, ?_⟩ | refine ⟨_, o2, ?_⟩ | refine ⟨_, d1, ?_⟩ | refine ⟨_, d3, ?_⟩ | refine ⟨_, d4, ?_⟩ | refine ⟨_, d5, ?_⟩ | refine ⟨_, hw, ?_⟩ | refine ⟨_, i1, ?_⟩ | refine ⟨_, i4, ?_⟩ | refine ⟨_, i5, ?_⟩ | refine ⟨_, dm, ?_⟩ | refine br_f z1 ?_ | refine br_f z2 ?_ | refine br_f zn ?_ | refine br_f y1' ?_ | refine br_f y2' ?_ | refine br_f y3 ?_ | refine br_tt ?_ | refine br_ff ?_ | refine And.intro (by kernel_rfl) ?_
      rfl
  rw [if_pos ma] at c2
  have bm := may_iff.1 ma
  have pl := plain_nlen_le a
  have d2 := rplain_snd (d := a) (by omega) (by omega)
  have i2 := is_snd a.plain 0 (by omega)
  rw [ma] at dm
  rcases hcase with ⟨hneg, e⟩ | ⟨hneg, e⟩
  · have zn := decide_eq_true hneg
    rw [← e] at hw
    repeat (conv => whnf); first | refine ⟨_, awake2_snd, ?_⟩ | refine ⟨_, c1, ?_⟩ | refine ⟨_, c2, ?_⟩ | refine ⟨_, c3, ?_⟩ | refine ⟨_, c4, ?_⟩ | refine ⟨_, c5, ?_⟩ | refine ⟨_, o1, ?_⟩ | refine ⟨_, o2, ?_⟩ | refine ⟨_, d1, ?_⟩ | refine ⟨_, d2, ?_⟩ | refine ⟨_, d3, ?_⟩ | refine ⟨_, d4, ?_⟩ | refine ⟨_, d5, ?_⟩ | refine ⟨_, hw, ?_⟩ | refine ⟨_, i1, ?_⟩ | refine ⟨_, i2, ?_⟩ | refine ⟨_, i4, ?_⟩ | refine ⟨_, i5, ?_⟩ | refine ⟨_, dm, ?_⟩ | refine br_f z1 ?_ | refine br_f z2 ?_ | refine br_t zn ?_ | refine br_f y1' ?_ | refine br_f y2' ?_ | refine br_f y3 ?_ | refine br_tt ?_ | refine br_ff ?_ | refine And.intro (by kernel_rfl) ?_
    rfl
  · have zn := decide_eq_false hneg
    rw [← e] at hw
    repeat (conv => whnf); first | refine ⟨_, awake2_snd, ?_⟩ | refine ⟨_, c1, ?_⟩ | refine ⟨_, c2, ?_⟩ | refine ⟨_, c3, ?_⟩ | refine ⟨_, c4, ?_⟩ | refine ⟨_, c5, ?_⟩ | refine ⟨_, o1, ?_⟩ | refine ⟨_, o2, ?_⟩ | refine ⟨_, d1, ?_⟩ | refine ⟨_, d2, ?_⟩ | refine ⟨_, d3, ?_⟩ | refine ⟨_, d4, ?_⟩ | refine ⟨_, d5, ?_⟩ | refine ⟨_, hw, ?_⟩ | refine ⟨_, i1, ?_⟩ | refine ⟨_, i2, ?_⟩ | refine ⟨_, i4, ?_⟩ | refine ⟨_, i5, ?_⟩ | refine ⟨_, dm, ?_⟩ | refine br_f z1 ?_ | refine br_f z2 ?_ | refine br_f zn ?_ | refine br_f y1' ?_ | refine br_f y2' ?_ | refine br_f y3 ?_ | refine br_tt ?_ | refine br_ff ?_ | refine And.intro (by kernel_rfl) ?_
    rfl
end Go.Proofs.Ytolcejcdehfdcaa.A
