/- The contracts of dyad.Same, Floor and Of, for all numbers of at most a thousand parts. -/
import Derived.Test.YtolcejcdehfdcaaS4
set_option linter.unusedVariables false
set_option linter.unusedSimpArgs false
set_option linter.constructorNameAsVariable false
set_option maxRecDepth 100000
set_option maxHeartbeats 4000000
namespace Go.Proofs.Ytolcejcdehfdcaa.A
open Go.RowKit Go.Proofs.Ytolcejcdehfdcaa.P Go.Proofs.YtolcejcdehfdcaaW.PrintWords Go.Proofs.YtolcejcdehfdcaaW.PrintMore Go.Proofs.Ytolcejcdehfdcaa.N Sk Dy
section
variable {la lb : List Int} {na nb : Bool} {ea eb : Int} {a b : Dy}
theorem dsame_snd (ha : Ok la) (hb : Ok lb) (hla : la.length ≤ 1000) (hlb : lb.length ≤ 1000) : Snd Try.prog 18 [.g (dL na la ea), .g (dL nb lb eb)] (.a (.b (Dy.same ⟨na, nv la, ea⟩ ⟨nb, nv lb, eb⟩))) := by
  have c := dcmp_snd (na := na) (nb := nb) (ea := ea) (eb := eb) ha hb hla hlb
  refine snd_of ttOk mixed Try.func18 Try.ntmps18 rfl (by kernel_rfl) rfl ?_
  generalize hr : Dy.cmp ⟨na, nv la, ea⟩ ⟨nb, nv lb, eb⟩ = r at c
  have hs : Dy.same ⟨na, nv la, ea⟩ ⟨nb, nv lb, eb⟩ = (decide (r.1 = 0) && decide (r.2 = 0)) := by unfold Dy.same; rw [hr]
  rw [hs]
  by_cases h : r.1 = 0
  · have z : (r.1 == 0) = true := by simp [h]
    rw [decide_eq_true h, Bool.true_and]
    repeat (conv => whnf); first | refine br_tt ?_ | refine br_ff ?_ | refine ⟨_, c, ?_⟩ | refine br_t z ?_ | refine And.intro (by kernel_rfl) ?_
    show AV.a (.b (r.2 == 0)) = _
    congr 2
  · have z : (r.1 == 0) = false := by simp [h]
    rw [decide_eq_false h, Bool.false_and]
    repeat (conv => whnf); first | refine br_tt ?_ | refine br_ff ?_ | refine ⟨_, c, ?_⟩ | refine br_f z ?_ | refine And.intro (by kernel_rfl) ?_
    rfl
/-- A number, whether something was lost, a message. -/
abbrev fA (r : Dy × Bool × Int) : AV := .t [.g (dA r.1), .a (.b r.2.1), .a (iA r.2.2)]
theorem fA_zero (m : Int) : fA (Dy.zero, false, m) = .t [.g [.b false, .v .u32 [], .i .i64 0], .a (.b false), .a (iA m)] := by show AV.t [.g (dA Dy.zero), _, _] = _; rw [dA_zero]
theorem dfloor_snd (ha : Ok la) (hla : la.length ≤ 1000) (at_ : Int) : Snd Try.prog 24 [.g (dL na la ea), .a (iA at_)] (fA (Dy.floor ⟨na, nv la, ea⟩ at_)) := by
  obtain ⟨a, ea'⟩ : ∃ a, a = (⟨na, nv la, ea⟩ : Dy) := ⟨_, rfl⟩
  have va := may_snd (neg := na) (e := ea) ha (by omega)
  rw [← ea'] at va
  rw [← ea']
  have vw := within_snd at_
  refine snd_of ttOk mixed Try.func24 Try.ntmps24 rfl (by kernel_rfl) rfl ?_
  by_cases ma : a.may = true
  case neg =>
    have e1 : Dy.floor a at_ = (Dy.zero, false, 3) := by unfold Dy.floor; rw [if_neg ma]
    rw [Bool.not_eq_true] at ma
    rw [e1, fA_zero]
    rw [ma] at va
    repeat (conv => whnf); first | refine br_tt ?_ | refine br_ff ?_ | refine ⟨_, va, ?_⟩ | refine And.intro (by kernel_rfl) ?_
    rfl
  by_cases hw : -8192 ≤ at_ ∧ at_ ≤ 8192
  case neg =>
    have e1 : Dy.floor a at_ = (Dy.zero, false, 1) := by unfold Dy.floor; rw [if_pos ma, if_neg hw]
    rw [e1, fA_zero]
    rw [ma] at va
    have hw' : (decide (-8192 ≤ at_) && decide (at_ ≤ 8192)) = false := by
      by_cases h : -8192 ≤ at_
      · rw [decide_eq_true h, decide_eq_false (by omega)]; rfl
      · rw [decide_eq_false h]; rfl
    rw [hw'] at vw
    repeat (conv => whnf); first | refine br_tt ?_ | refine br_ff ?_ | refine ⟨_, va, ?_⟩ | refine ⟨_, vw, ?_⟩ | refine And.intro (by kernel_rfl) ?_
    rfl
  have hw' : (decide (-8192 ≤ at_) && decide (at_ ≤ 8192)) = true := by rw [decide_eq_true hw.1, decide_eq_true hw.2]; rfl
  rw [hw'] at vw
  have e1 : Dy.floor a at_ = if at_ ≤ a.e then (a.plain, false, 0) else (Dy.plain ⟨a.neg, a.n / 2 ^ (at_ - a.e).toNat, at_⟩, decide (a.n % 2 ^ (at_ - a.e).toNat ≠ 0), 0) := by
    unfold Dy.floor; rw [if_pos ma, if_pos hw]
  have pa := plain_snd (neg := na) (e := ea) ha hla (may_exs (ea' ▸ ma))
  rw [← ea'] at pa
  have bm := may_iff.1 ma
  have bp := plain_bounds ma
  have vl := len_snd ha (by omega)
  rw [show nv la = a.n by rw [ea']] at vl
  have z1 := beq_len0 (n := a.n)
  rw [ma] at va
  -- the plain form is told
  have tell : (at_ ≤ a.plain.e ∨ a.n = 0) → Dy.floor a at_ = (a.plain, false, 0) := by
    intro h
    by_cases h1 : at_ ≤ a.e
    · rw [e1, if_pos h1]
    · obtain ⟨f1, f2⟩ := floor_low h (by omega)
      rw [e1, if_neg h1, f1, f2]; rfl
  by_cases h : at_ ≤ a.plain.e
  · rw [tell (.inl h)]
    have z2 : decide (a.plain.e ≥ at_) = true := decide_eq_true h
    repeat (conv => whnf); first | refine br_tt ?_ | refine br_ff ?_ | refine ⟨_, va, ?_⟩ | refine ⟨_, vw, ?_⟩ | refine ⟨_, pa, ?_⟩ | refine ⟨_, vl, ?_⟩ | refine br_t z2 ?_ | refine And.intro (by kernel_rfl) ?_
    rfl
  have z2 : decide (a.plain.e ≥ at_) = false := decide_eq_false h
  by_cases h0 : a.n = 0
  · rw [tell (.inr h0)]
    rw [decide_eq_true h0] at z1
    repeat (conv => whnf); first | refine br_tt ?_ | refine br_ff ?_ | refine ⟨_, va, ?_⟩ | refine ⟨_, vw, ?_⟩ | refine ⟨_, pa, ?_⟩ | refine ⟨_, vl, ?_⟩ | refine br_f z2 ?_ | refine br_t z1 ?_ | refine And.intro (by kernel_rfl) ?_
    rfl
  rw [decide_eq_false h0] at z1
  have := plain_e_ge a h0
  have h1 : ¬ at_ ≤ a.e := fun e => h (by omega)
  rw [e1, if_neg h1]
  have hr := right_snd ha (by omega) (at_ - a.e)
  rw [show nv la = a.n by rw [ea']] at hr
  have w1 : IntKind.wrap .i64 (at_ - ea) = at_ - a.e := by rw [show ea = a.e by rw [ea'], wI (by omega) (by omega)]
  rw [← w1] at hr
  have hd : nlen (a.n / 2 ^ (at_ - a.e).toNat) ≤ 4096 := by rw [nlen_div_pow]; omega
  have en : na = a.neg := by rw [ea']
  have c := plain_snd' (d := ⟨na, a.n / 2 ^ (at_ - a.e).toNat, at_⟩) (by show nlen _ ≤ 31000; dsimp only; omega) (by unfold Exs; dsimp only; omega)
  rw [← w1] at c
  rw [← en, ← w1]
  repeat (conv => whnf); first | refine br_tt ?_ | refine br_ff ?_ | refine ⟨_, va, ?_⟩ | refine ⟨_, vw, ?_⟩ | refine ⟨_, pa, ?_⟩ | refine ⟨_, vl, ?_⟩ | refine ⟨_, hr, ?_⟩ | refine ⟨_, c, ?_⟩ | refine br_f z2 ?_ | refine br_f z1 ?_ | refine And.intro (by kernel_rfl) ?_
  rfl
theorem dof_snd {n : Int} (h0 : -9223372036854775808 ≤ n) (h1 : n < 9223372036854775808) : Snd Try.prog 26 [.a (iA n)] (.g (dA (Dy.of n))) := by
  have hn : nlen n.natAbs ≤ 64 := nlen_le (by omega)
  have ho := of_snd (n := ((n.natAbs : Nat) : Int)) (by omega) (by omega)
  rw [Int.toNat_natCast] at ho
  refine snd_of ttOk mixed Try.func26 Try.ntmps26 rfl (by kernel_rfl) rfl ?_
  unfold Dy.of
  by_cases h : n < 0
  · have e : IntKind.wrap .u64 (0 - (IntKind.wrap .u64 n)) = ((n.natAbs : Nat) : Int) := by simp only [IntKind.wrap_u64]; omega
    have z : decide (n < 0) = true := decide_eq_true h
    have hp := plain_snd' (d := ⟨decide (n < 0), n.natAbs, 0⟩) (by show nlen _ ≤ 31000; dsimp only; omega) (by unfold Exs; dsimp only; omega)
    rw [← e] at ho
    repeat (conv => whnf); first | refine br_tt ?_ | refine br_ff ?_ | refine ⟨_, ho, ?_⟩ | refine ⟨_, hp, ?_⟩ | refine br_t z ?_ | refine And.intro (by kernel_rfl) ?_
    rfl
  · have e : IntKind.wrap .u64 n = ((n.natAbs : Nat) : Int) := by rw [IntKind.wrap_u64]; omega
    have z : decide (n < 0) = false := decide_eq_false h
    have hp := plain_snd' (d := ⟨decide (n < 0), n.natAbs, 0⟩) (by show nlen _ ≤ 31000; dsimp only; omega) (by unfold Exs; dsimp only; omega)
    rw [← e] at ho
    repeat (conv => whnf); first | refine br_tt ?_ | refine br_ff ?_ | refine ⟨_, ho, ?_⟩ | refine ⟨_, hp, ?_⟩ | refine br_f z ?_ | refine And.intro (by kernel_rfl) ?_
    rfl
end
end Go.Proofs.Ytolcejcdehfdcaa.A
