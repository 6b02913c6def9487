/- The contract of dyad.Cmp, for all numbers of at most a thousand parts. -/
import Derived.Test.YtlaffgojgfdlnaaS3
set_option linter.unusedVariables false
set_option linter.unusedSimpArgs false
set_option linter.constructorNameAsVariable false
set_option maxRecDepth 100000
set_option maxHeartbeats 4000000
namespace Go.Proofs.Ytlaffgojgfdlnaa.A
open Go.RowKit Go.Proofs.Ytlaffgojgfdlnaa.P Go.Proofs.YtlaffgojgfdlnaaW.PrintWords Go.Proofs.YtlaffgojgfdlnaaW.PrintMore Go.Proofs.Ytlaffgojgfdlnaa.N Sk Dy
section
variable {la lb : List Int} {na nb : Bool} {ea eb : Int} {a b : Dy}
abbrev cA (r : Int × Int) : AV := .t [.a (iA r.1), .a (iA r.2)]
theorem cA_congr {x y m : Int} (h : x = y) : cA (x, m) = cA (y, m) := by rw [h]
theorem dcmp_snd (ha : Ok la) (hb : Ok lb) (hla : la.length ≤ 1000) (hlb : lb.length ≤ 1000) : Snd Try.prog 15 [.g (dL na la ea), .g (dL nb lb eb)] (cA (Dy.cmp ⟨na, nv la, ea⟩ ⟨nb, nv lb, eb⟩)) := by
  obtain ⟨a, ea'⟩ : ∃ a, a = (⟨na, nv la, ea⟩ : Dy) := ⟨_, rfl⟩
  obtain ⟨b, eb'⟩ : ∃ b, b = (⟨nb, nv lb, eb⟩ : Dy) := ⟨_, rfl⟩
  have va := may_snd (neg := na) (e := ea) ha (by omega)
  have vb := may_snd (neg := nb) (e := eb) hb (by omega)
  rw [← ea'] at va
  rw [← eb'] at vb
  rw [← ea', ← eb']
  refine snd_of ttOk mixed Try.func15 Try.ntmps15 rfl (by kernel_rfl) rfl ?_
  by_cases ma : a.may = true
  case neg =>
    rw [Bool.not_eq_true] at ma
    have e1 : Dy.cmp a b = (0, 3) := if_neg (fun h => by rw [ma] at h; exact absurd h.1 (by simp))
    rw [e1]
    rw [ma] at va
    repeat (conv => whnf); first | refine br_tt ?_ | refine br_ff ?_ | refine ⟨_, va, ?_⟩ | refine And.intro (by kernel_rfl) ?_
    rfl
  by_cases mb : b.may = true
  case neg =>
    rw [Bool.not_eq_true] at mb
    have e1 : Dy.cmp a b = (0, 3) := if_neg (fun h => by rw [mb] at h; exact absurd h.2 (by simp))
    rw [e1]
    rw [ma] at va
    rw [mb] at vb
    repeat (conv => whnf); first | refine br_tt ?_ | refine br_ff ?_ | refine ⟨_, va, ?_⟩ | refine ⟨_, vb, ?_⟩ | refine And.intro (by kernel_rfl) ?_
    rfl
  have pa := plain_snd (neg := na) (e := ea) ha hla (may_exs (ea' ▸ ma))
  have pb := plain_snd (neg := nb) (e := eb) hb hlb (may_exs (eb' ▸ mb))
  rw [← ea'] at pa
  rw [← eb'] at pb
  have ba := plain_bounds ma
  have bb := plain_bounds mb
  have bma := may_iff.1 ma
  have bmb := may_iff.1 mb
  have fa : Few a.plain.n := by show nlen _ ≤ 31000; omega
  have fb : Few b.plain.n := by show nlen _ ≤ 31000; omega
  have l1 := len_snd' fa
  have l2 := len_snd' fb
  have z1 := beq_len0 (n := a.plain.n)
  have z2 := beq_len0 (n := b.plain.n)
  rw [ma] at va
  rw [mb] at vb
  have e1 : Dy.cmp a b = (sgn a b, 0) := if_pos ⟨ma, mb⟩
  rw [e1]
  by_cases h1 : a.n = 0
  · rw [decide_eq_true (plain_n.2 h1)] at z1
    have pz : a.plain = Dy.zero := plain_zero h1
    by_cases h2 : b.n = 0
    · rw [decide_eq_true (plain_n.2 h2)] at z2
      rw [show sgn a b = 0 from if_pos ⟨h1, h2⟩]
      have zs : a.plain.neg = false := by rw [pz]; rfl
      repeat (conv => whnf); first | refine br_tt ?_ | refine br_ff ?_ | refine ⟨_, va, ?_⟩ | refine ⟨_, vb, ?_⟩ | refine ⟨_, pa, ?_⟩ | refine ⟨_, pb, ?_⟩ | refine ⟨_, l1, ?_⟩ | refine ⟨_, l2, ?_⟩ | refine br_f zs ?_ | refine br_t z1 ?_ | refine br_t z2 ?_ | refine And.intro (by kernel_rfl) ?_
      rfl
    · rw [decide_eq_false (fun e => h2 (plain_n.1 e))] at z2
      have hs : sgn a b = if b.neg = true then 1 else -1 := by unfold Dy.sgn; rw [if_neg (fun e => h2 e.2), if_pos h1]
      rw [hs]
      have zs : a.plain.neg = false := by rw [pz]; rfl
      by_cases hb' : b.neg = true
      · rw [if_pos hb']
        have zb : b.plain.neg = true := by rw [plain_neg h2]; exact hb'
        repeat (conv => whnf); first | refine br_tt ?_ | refine br_ff ?_ | refine ⟨_, va, ?_⟩ | refine ⟨_, vb, ?_⟩ | refine ⟨_, pa, ?_⟩ | refine ⟨_, pb, ?_⟩ | refine ⟨_, l1, ?_⟩ | refine ⟨_, l2, ?_⟩ | refine br_f zs ?_ | refine br_t zb ?_ | refine br_t z1 ?_ | refine br_f z2 ?_ | refine And.intro (by kernel_rfl) ?_
        rfl
      · rw [if_neg hb']
        have zb : b.plain.neg = false := by rw [plain_neg h2]; rw [Bool.not_eq_true] at hb'; exact hb'
        repeat (conv => whnf); first | refine br_tt ?_ | refine br_ff ?_ | refine ⟨_, va, ?_⟩ | refine ⟨_, vb, ?_⟩ | refine ⟨_, pa, ?_⟩ | refine ⟨_, pb, ?_⟩ | refine ⟨_, l1, ?_⟩ | refine ⟨_, l2, ?_⟩ | refine br_f zs ?_ | refine br_f zb ?_ | refine br_t z1 ?_ | refine br_f z2 ?_ | refine And.intro (by kernel_rfl) ?_
        rfl
  rw [decide_eq_false (fun e => h1 (plain_n.1 e))] at z1
  have hz : ¬ (a.n = 0 ∧ b.n = 0) := fun e => h1 e.1
  have one_ : ∀ s : Bool, a.plain.neg = s → ∀ r : Int, sgn a b = r → ((b.n = 0 ∨ a.neg ≠ b.neg) → r = if s = true then -1 else 1) ∧ (b.n ≠ 0 → a.neg = b.neg → r = if s = true then -(sg (a.dv (min a.e b.e)) (b.dv (min a.e b.e))) else sg (a.dv (min a.e b.e)) (b.dv (min a.e b.e))) := by
    intro s hs r hr
    rw [plain_neg h1] at hs
    subst hs; subst hr
    exact ⟨fun h => by unfold Dy.sgn; rw [if_neg hz, if_neg h1, if_pos h], fun h2 h3 => sgn_main h1 h2 h3⟩
  by_cases h2 : b.n = 0
  · rw [decide_eq_true (plain_n.2 h2)] at z2
    cases zs : a.plain.neg with
    | true =>
      have hr := (one_ true zs _ rfl).1 (.inl h2)
      rw [if_pos rfl] at hr
      rw [hr]
      repeat (conv => whnf); first | refine br_tt ?_ | refine br_ff ?_ | refine ⟨_, va, ?_⟩ | refine ⟨_, vb, ?_⟩ | refine ⟨_, pa, ?_⟩ | refine ⟨_, pb, ?_⟩ | refine ⟨_, l1, ?_⟩ | refine ⟨_, l2, ?_⟩ | refine br_t zs ?_ | refine br_f z1 ?_ | refine br_t z2 ?_ | refine And.intro (by kernel_rfl) ?_
      rfl
    | false =>
      have hr := (one_ false zs _ rfl).1 (.inl h2)
      rw [if_neg (by simp)] at hr
      rw [hr]
      repeat (conv => whnf); first | refine br_tt ?_ | refine br_ff ?_ | refine ⟨_, va, ?_⟩ | refine ⟨_, vb, ?_⟩ | refine ⟨_, pa, ?_⟩ | refine ⟨_, pb, ?_⟩ | refine ⟨_, l1, ?_⟩ | refine ⟨_, l2, ?_⟩ | refine br_f zs ?_ | refine br_f z1 ?_ | refine br_t z2 ?_ | refine And.intro (by kernel_rfl) ?_
      rfl
  rw [decide_eq_false (fun e => h2 (plain_n.1 e))] at z2
  by_cases h3 : a.neg = b.neg
  case neg =>
    have z3 : (!(a.plain.neg == b.plain.neg)) = true := by rw [plain_neg h1, plain_neg h2]; simp [h3]
    cases zs : a.plain.neg with
    | true =>
      have hr := (one_ true zs _ rfl).1 (.inr h3)
      rw [if_pos rfl] at hr
      rw [hr]
      repeat (conv => whnf); first | refine br_tt ?_ | refine br_ff ?_ | refine ⟨_, va, ?_⟩ | refine ⟨_, vb, ?_⟩ | refine ⟨_, pa, ?_⟩ | refine ⟨_, pb, ?_⟩ | refine ⟨_, l1, ?_⟩ | refine ⟨_, l2, ?_⟩ | refine br_t zs ?_ | refine br_t z3 ?_ | refine br_f z1 ?_ | refine br_f z2 ?_ | refine And.intro (by kernel_rfl) ?_
      rfl
    | false =>
      have hr := (one_ false zs _ rfl).1 (.inr h3)
      rw [if_neg (by simp)] at hr
      rw [hr]
      repeat (conv => whnf); first | refine br_tt ?_ | refine br_ff ?_ | refine ⟨_, va, ?_⟩ | refine ⟨_, vb, ?_⟩ | refine ⟨_, pa, ?_⟩ | refine ⟨_, pb, ?_⟩ | refine ⟨_, l1, ?_⟩ | refine ⟨_, l2, ?_⟩ | refine br_f zs ?_ | refine br_t z3 ?_ | refine br_f z1 ?_ | refine br_f z2 ?_ | refine And.intro (by kernel_rfl) ?_
      rfl
  have z3 : (!(a.plain.neg == b.plain.neg)) = false := by rw [plain_neg h1, plain_neg h2]; simp [h3]
  have t1 := top_plain h1
  have t2 := top_plain h2
  have w1 : IntKind.wrap .i64 (a.plain.e + nlen a.plain.n) = a.e + nlen a.n := by rw [t1, wI (by omega) (by omega)]
  have w2 : IntKind.wrap .i64 (b.plain.e + nlen b.plain.n) = b.e + nlen b.n := by rw [t2, wI (by omega) (by omega)]
  by_cases ht : a.e + nlen a.n = b.e + nlen b.n
  · have z4 : (IntKind.wrap .i64 (a.plain.e + nlen a.plain.n) != IntKind.wrap .i64 (b.plain.e + nlen b.plain.n)) = false := by rw [w1, w2, ht]; simp
    have ppa := plain_plain a
    have ppb := plain_plain b
    have g1 : a.plain.n ≠ 0 := fun e => h1 (plain_n.1 e)
    have g2 : b.plain.n ≠ 0 := fun e => h2 (plain_n.1 e)
    have lv := level_snd (a := a.plain) (b := b.plain) (na := a.plain.neg) (nb := b.plain.neg) (ea := a.plain.e) (eb := b.plain.e) (few_ok fa).1 (few_ok fb).1 (few_ok fa).2 (few_ok fb).2 (by rw [nv_parts]) (by rw [nv_parts]) (by unfold Exs; omega) (by unfold Exs; omega) (by omega) (by omega) (by
      intro _ _
      rw [ppa, ppb]; omega)
    have e2 : lev a.plain b.plain = (a.plain.dv (min a.plain.e b.plain.e), b.plain.dv (min a.plain.e b.plain.e), min a.plain.e b.plain.e) := by
      unfold lev; rw [ppa, ppb, if_neg g1, if_neg g2]
    rw [e2] at lv
    have s1 := nlen_shift_le a.plain.n (a.plain.e - min a.plain.e b.plain.e).toNat
    have s2 := nlen_shift_le b.plain.n (b.plain.e - min a.plain.e b.plain.e).toNat
    change nlen (a.plain.dv _) ≤ _ at s1
    change nlen (b.plain.dv _) ≤ _ at s2
    have c1 := cmp_snd' (m := a.plain.dv (min a.plain.e b.plain.e)) (n := b.plain.dv (min a.plain.e b.plain.e)) (by show nlen _ ≤ 31000; omega) (by show nlen _ ≤ 31000; omega)
    cases zs : a.plain.neg with
    | true =>
      have hr := (one_ true zs _ rfl).2 h2 h3
      rw [if_pos rfl] at hr
      rw [hr]
      repeat (conv => whnf); first | refine br_tt ?_ | refine br_ff ?_ | refine ⟨_, va, ?_⟩ | refine ⟨_, vb, ?_⟩ | refine ⟨_, pa, ?_⟩ | refine ⟨_, pb, ?_⟩ | refine ⟨_, l1, ?_⟩ | refine ⟨_, l2, ?_⟩ | refine ⟨_, lv, ?_⟩ | refine ⟨_, c1, ?_⟩ | refine br_t zs ?_ | refine br_f z3 ?_ | refine br_f z1 ?_ | refine br_f z2 ?_ | refine br_f z4 ?_ | refine And.intro (by kernel_rfl) ?_
      refine cA_congr ?_
      rw [sg_plain h1 h2]
      rcases sg_vals (a.dv (min a.e b.e)) (b.dv (min a.e b.e)) with e | e | e <;> rw [e] <;> decide +kernel
    | false =>
      have hr := (one_ false zs _ rfl).2 h2 h3
      rw [if_neg (by simp)] at hr
      rw [hr]
      repeat (conv => whnf); first | refine br_tt ?_ | refine br_ff ?_ | refine ⟨_, va, ?_⟩ | refine ⟨_, vb, ?_⟩ | refine ⟨_, pa, ?_⟩ | refine ⟨_, pb, ?_⟩ | refine ⟨_, l1, ?_⟩ | refine ⟨_, l2, ?_⟩ | refine ⟨_, lv, ?_⟩ | refine ⟨_, c1, ?_⟩ | refine br_f zs ?_ | refine br_f z3 ?_ | refine br_f z1 ?_ | refine br_f z2 ?_ | refine br_f z4 ?_ | refine And.intro (by kernel_rfl) ?_
      refine cA_congr ?_
      rw [sg_plain h1 h2]
      rcases sg_vals (a.dv (min a.e b.e)) (b.dv (min a.e b.e)) with e | e | e <;> rw [e] <;> decide +kernel
  have z4 : (IntKind.wrap .i64 (a.plain.e + nlen a.plain.n) != IntKind.wrap .i64 (b.plain.e + nlen b.plain.n)) = true := by rw [w1, w2]; simp [ht]
  by_cases hg : a.e + nlen a.n > b.e + nlen b.n
  · have z5 : decide (IntKind.wrap .i64 (a.plain.e + nlen a.plain.n) > IntKind.wrap .i64 (b.plain.e + nlen b.plain.n)) = true := by rw [w1, w2]; exact decide_eq_true hg
    have hsg := sg_top h1 h2 hg
    cases zs : a.plain.neg with
    | true =>
      have hr := (one_ true zs _ rfl).2 h2 h3
      rw [if_pos rfl, hsg] at hr
      rw [hr]
      repeat (conv => whnf); first | refine br_tt ?_ | refine br_ff ?_ | refine ⟨_, va, ?_⟩ | refine ⟨_, vb, ?_⟩ | refine ⟨_, pa, ?_⟩ | refine ⟨_, pb, ?_⟩ | refine ⟨_, l1, ?_⟩ | refine ⟨_, l2, ?_⟩ | refine br_t zs ?_ | refine br_f z3 ?_ | refine br_f z1 ?_ | refine br_f z2 ?_ | refine br_t z4 ?_ | refine br_t z5 ?_ | refine And.intro (by kernel_rfl) ?_
      rfl
    | false =>
      have hr := (one_ false zs _ rfl).2 h2 h3
      rw [if_neg (by simp), hsg] at hr
      rw [hr]
      repeat (conv => whnf); first | refine br_tt ?_ | refine br_ff ?_ | refine ⟨_, va, ?_⟩ | refine ⟨_, vb, ?_⟩ | refine ⟨_, pa, ?_⟩ | refine ⟨_, pb, ?_⟩ | refine ⟨_, l1, ?_⟩ | refine ⟨_, l2, ?_⟩ | refine br_f zs ?_ | refine br_f z3 ?_ | refine br_f z1 ?_ | refine br_f z2 ?_ | refine br_t z4 ?_ | refine br_t z5 ?_ | refine And.intro (by kernel_rfl) ?_
      rfl
  · have z5 : decide (IntKind.wrap .i64 (a.plain.e + nlen a.plain.n) > IntKind.wrap .i64 (b.plain.e + nlen b.plain.n)) = false := by rw [w1, w2]; exact decide_eq_false hg
    have hsg := sg_top' h1 h2 (by omega)
    cases zs : a.plain.neg with
    | true =>
      have hr := (one_ true zs _ rfl).2 h2 h3
      rw [if_pos rfl, hsg] at hr
      rw [hr]
      repeat (conv => whnf); first | refine br_tt ?_ | refine br_ff ?_ | refine ⟨_, va, ?_⟩ | refine ⟨_, vb, ?_⟩ | refine ⟨_, pa, ?_⟩ | refine ⟨_, pb, ?_⟩ | refine ⟨_, l1, ?_⟩ | refine ⟨_, l2, ?_⟩ | refine br_t zs ?_ | refine br_f z3 ?_ | refine br_f z1 ?_ | refine br_f z2 ?_ | refine br_t z4 ?_ | refine br_f z5 ?_ | refine And.intro (by kernel_rfl) ?_
      rfl
    | false =>
      have hr := (one_ false zs _ rfl).2 h2 h3
      rw [if_neg (by simp), hsg] at hr
      rw [hr]
      repeat (conv => whnf); first | refine br_tt ?_ | refine br_ff ?_ | refine ⟨_, va, ?_⟩ | refine ⟨_, vb, ?_⟩ | refine ⟨_, pa, ?_⟩ | refine ⟨_, pb, ?_⟩ | refine ⟨_, l1, ?_⟩ | refine ⟨_, l2, ?_⟩ | refine br_f zs ?_ | refine br_f z3 ?_ | refine br_f z1 ?_ | refine br_f z2 ?_ | refine br_t z4 ?_ | refine br_f z5 ?_ | refine And.intro (by kernel_rfl) ?_
      rfl
end
end Go.Proofs.Ytlaffgojgfdlnaa.A
