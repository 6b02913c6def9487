/- The contracts of dyad.Add, Sub, Mul, Plain and Top, for all numbers of at most a thousand parts. -/
import Derived.Test.YtlaffgojgfdlnaaS2
set_option linter.unusedVariables false
set_option linter.unusedSimpArgs false
set_option linter.constructorNameAsVariable false
set_option maxRecDepth 100000
set_option maxHeartbeats 4000000
namespace Go.Proofs.Ytlaffgojgfdlnaa.A
open Go.RowKit Go.Proofs.Ytlaffgojgfdlnaa.P Go.Proofs.YtlaffgojgfdlnaaW.PrintWords Go.Proofs.YtlaffgojgfdlnaaW.PrintMore Go.Proofs.Ytlaffgojgfdlnaa.N Sk Dy
section
variable {la lb : List Int} {na nb : Bool} {ea eb : Int} {a b : Dy}
theorem add_snd' {m n : Nat} (hm : Few m) (hn : Few n) : Snd Try.prog 51 [.a (nA m), .a (nA n)] (.a (nA (m + n))) := by
  have := add_snd (few_ok hm).1 (few_ok hn).1 (by have := (few_ok hm).2; omega) (by have := (few_ok hn).2; omega)
  rw [nv_parts, nv_parts] at this; exact this
theorem cmp_snd' {m n : Nat} (hm : Few m) (hn : Few n) : Snd Try.prog 40 [.a (nA m), .a (nA n)] (.a (iA (sg m n))) := by
  have := cmp_snd (few_ok hm).1 (few_ok hn).1 (by have := (few_ok hm).2; omega) (by have := (few_ok hn).2; omega)
  rw [nv_parts, nv_parts] at this; exact this
theorem sub_snd' {m n : Nat} (hm : Few m) (hn : Few n) (h : n ≤ m) : Snd Try.prog 52 [.a (nA m), .a (nA n)] (.t [.a (nA (m - n)), .a (iA 0)]) := by
  have := sub_snd (few_ok hm).1 (few_ok hn).1 (by have := (few_ok hm).2; omega) (by have := (few_ok hn).2; omega) (by rw [nv_parts, nv_parts]; exact h)
  rw [nv_parts, nv_parts] at this; exact this
/-- A number and a message. -/
abbrev rA (r : Dy × Int) : AV := .t [.g (dA r.1), .a (iA r.2)]
theorem rA_zero (m : Int) : rA (Dy.zero, m) = .t [.g [.b false, .v .u32 [], .i .i64 0], .a (iA m)] := by show AV.t [.g (dA Dy.zero), _] = _; rw [dA_zero]
theorem dadd_snd (ha : Ok la) (hb : Ok lb) (hla : la.length ≤ 1000) (hlb : lb.length ≤ 1000) : Snd Try.prog 18 [.g (dL na la ea), .g (dL nb lb eb)] (rA (Dy.add ⟨na, nv la, ea⟩ ⟨nb, nv lb, eb⟩)) := by
  obtain ⟨a, ea'⟩ : ∃ a, a = (⟨na, nv la, ea⟩ : Dy) := ⟨_, rfl⟩
  obtain ⟨b, eb'⟩ : ∃ b, b = (⟨nb, nv lb, eb⟩ : Dy) := ⟨_, rfl⟩
  have va := may_snd (neg := na) (e := ea) ha (by omega)
  have vb := may_snd (neg := nb) (e := eb) hb (by omega)
  rw [← ea'] at va
  rw [← eb'] at vb
  rw [← ea', ← eb']
  refine snd_of ttOk mixed Try.func18 Try.ntmps18 rfl (by kernel_rfl) rfl ?_
  by_cases ma : a.may = true
  case neg =>
    rw [Bool.not_eq_true] at ma
    have e1 : Dy.add a b = (Dy.zero, 3) := if_neg (fun h => by rw [ma] at h; exact absurd h.1 (by simp))
    rw [e1, rA_zero]
    rw [ma] at va
    repeat (conv => whnf); first | refine br_tt ?_ | refine br_ff ?_ | refine ⟨_, va, ?_⟩ | refine And.intro (by kernel_rfl) ?_
    rfl
  by_cases mb : b.may = true
  case neg =>
    rw [Bool.not_eq_true] at mb
    have e1 : Dy.add a b = (Dy.zero, 3) := if_neg (fun h => by rw [mb] at h; exact absurd h.2 (by simp))
    rw [e1, rA_zero]
    rw [ma] at va
    rw [mb] at vb
    repeat (conv => whnf); first | refine br_tt ?_ | refine br_ff ?_ | refine ⟨_, va, ?_⟩ | refine ⟨_, vb, ?_⟩ | refine And.intro (by kernel_rfl) ?_
    rfl
  have hw := wide_snd ha hb hla hlb ea' eb' ma mb
  have hadd : Dy.add a b = told (if a.n = 0 then b else if b.n = 0 then a else Dy.sum a b) := if_pos ⟨ma, mb⟩
  rw [ma] at va
  rw [mb] at vb
  by_cases hf : far a b
  · rw [hadd, if_neg hf.1, if_neg hf.2.1, far_told ma mb hf, rA_zero]
    rw [decide_eq_true hf] at hw
    repeat (conv => whnf); first | refine br_tt ?_ | refine br_ff ?_ | refine ⟨_, va, ?_⟩ | refine ⟨_, vb, ?_⟩ | refine ⟨_, hw, ?_⟩ | refine And.intro (by kernel_rfl) ?_
    rfl
  rw [decide_eq_false hf] at hw
  obtain ⟨l1, l2, l3, l4, hr⟩ := lev_bounds ma mb hf
  have ba := may_iff.1 ma
  have bb := may_iff.1 mb
  have hl := level_snd ha hb hla hlb ea' eb' (may_exs (ea' ▸ ma)) (may_exs (eb' ▸ mb)) (by omega) (by omega) (fun g1 g2 => by have := hr g1 g2; omega)
  rw [hadd, ← lsum_told]
  have en : na = a.neg := by rw [ea']
  have em : nb = b.neg := by rw [eb']
  have xe : Exs (lev a b).2.2 := by unfold Exs; omega
  have f1 : Few (lev a b).1 := by show nlen _ ≤ 31000; omega
  have f2 : Few (lev a b).2.1 := by show nlen _ ≤ 31000; omega
  have hc := cmp_snd' f1 f2
  by_cases hs : na = nb
  · have e1 : lsum a b = ⟨na, (lev a b).1 + (lev a b).2.1, (lev a b).2.2⟩ := by rw [en]; exact if_pos (by rw [← en, ← em]; exact hs)
    rw [e1]
    have := nlen_add_le (lev a b).1 (lev a b).2.1
    have c1 := add_snd' f1 f2
    have c2 := told_snd (d := ⟨na, (lev a b).1 + (lev a b).2.1, (lev a b).2.2⟩) (by show nlen _ ≤ 31000; dsimp only; omega) xe
    have z : (na == nb) = true := by rw [hs]; simp
    repeat (conv => whnf); first | refine br_tt ?_ | refine br_ff ?_ | refine br_t z ?_ | refine ⟨_, va, ?_⟩ | refine ⟨_, vb, ?_⟩ | refine ⟨_, hw, ?_⟩ | refine ⟨_, hl, ?_⟩ | refine ⟨_, c1, ?_⟩ | refine ⟨_, c2, ?_⟩ | refine And.intro (by kernel_rfl) ?_
    rfl
  have z : (na == nb) = false := by rw [beq_eq_false_iff_ne]; exact hs
  have hs' : ¬ a.neg = b.neg := by rw [← en, ← em]; exact hs
  by_cases hlt : (lev a b).1 < (lev a b).2.1
  · have e1 : lsum a b = ⟨nb, (lev a b).2.1 - (lev a b).1, (lev a b).2.2⟩ := by unfold lsum; rw [if_neg hs', if_pos hlt, em]
    rw [e1]
    have := nlen_mono (Nat.sub_le (lev a b).2.1 (lev a b).1)
    have z2 : decide (sg (lev a b).1 (lev a b).2.1 < 0) = true := decide_eq_true (sg_neg.2 hlt)
    have c1 := sub_snd' f2 f1 (by omega)
    have c2 := told_snd (d := ⟨nb, (lev a b).2.1 - (lev a b).1, (lev a b).2.2⟩) (by show nlen _ ≤ 31000; dsimp only; omega) xe
    repeat (conv => whnf); first | refine br_tt ?_ | refine br_ff ?_ | refine br_f z ?_ | refine br_t z2 ?_ | refine ⟨_, va, ?_⟩ | refine ⟨_, vb, ?_⟩ | refine ⟨_, hw, ?_⟩ | refine ⟨_, hl, ?_⟩ | refine ⟨_, hc, ?_⟩ | refine ⟨_, c1, ?_⟩ | refine ⟨_, c2, ?_⟩ | refine And.intro (by kernel_rfl) ?_
    rfl
  · have e1 : lsum a b = ⟨na, (lev a b).1 - (lev a b).2.1, (lev a b).2.2⟩ := by unfold lsum; rw [if_neg hs', if_neg hlt, en]
    rw [e1]
    have := nlen_mono (Nat.sub_le (lev a b).1 (lev a b).2.1)
    have z2 : decide (sg (lev a b).1 (lev a b).2.1 < 0) = false := decide_eq_false (fun e => hlt (sg_neg.1 e))
    have c1 := sub_snd' f1 f2 (by omega)
    have c2 := told_snd (d := ⟨na, (lev a b).1 - (lev a b).2.1, (lev a b).2.2⟩) (by show nlen _ ≤ 31000; dsimp only; omega) xe
    repeat (conv => whnf); first | refine br_tt ?_ | refine br_ff ?_ | refine br_f z ?_ | refine br_f z2 ?_ | refine ⟨_, va, ?_⟩ | refine ⟨_, vb, ?_⟩ | refine ⟨_, hw, ?_⟩ | refine ⟨_, hl, ?_⟩ | refine ⟨_, hc, ?_⟩ | refine ⟨_, c1, ?_⟩ | refine ⟨_, c2, ?_⟩ | refine And.intro (by kernel_rfl) ?_
    rfl
theorem dmul_snd (ha : Ok la) (hb : Ok lb) (hla : la.length ≤ 1000) (hlb : lb.length ≤ 1000) : Snd Try.prog 19 [.g (dL na la ea), .g (dL nb lb eb)] (rA (Dy.mul ⟨na, nv la, ea⟩ ⟨nb, nv lb, eb⟩)) := by
  obtain ⟨a, ea'⟩ : ∃ a, a = (⟨na, nv la, ea⟩ : Dy) := ⟨_, rfl⟩
  obtain ⟨b, eb'⟩ : ∃ b, b = (⟨nb, nv lb, eb⟩ : Dy) := ⟨_, rfl⟩
  have va := may_snd (neg := na) (e := ea) ha (by omega)
  have vb := may_snd (neg := nb) (e := eb) hb (by omega)
  rw [← ea'] at va
  rw [← eb'] at vb
  rw [← ea', ← eb']
  refine snd_of ttOk mixed Try.func19 Try.ntmps19 rfl (by kernel_rfl) rfl ?_
  by_cases ma : a.may = true
  case neg =>
    rw [Bool.not_eq_true] at ma
    have e1 : Dy.mul a b = (Dy.zero, 3) := if_neg (fun h => by rw [ma] at h; exact absurd h.1 (by simp))
    rw [e1, rA_zero]
    rw [ma] at va
    repeat (conv => whnf); first | refine br_tt ?_ | refine br_ff ?_ | refine ⟨_, va, ?_⟩ | refine And.intro (by kernel_rfl) ?_
    rfl
  by_cases mb : b.may = true
  case neg =>
    rw [Bool.not_eq_true] at mb
    have e1 : Dy.mul a b = (Dy.zero, 3) := if_neg (fun h => by rw [mb] at h; exact absurd h.2 (by simp))
    rw [e1, rA_zero]
    rw [ma] at va
    rw [mb] at vb
    repeat (conv => whnf); first | refine br_tt ?_ | refine br_ff ?_ | refine ⟨_, va, ?_⟩ | refine ⟨_, vb, ?_⟩ | refine And.intro (by kernel_rfl) ?_
    rfl
  have ba := may_iff.1 ma
  have bb := may_iff.1 mb
  have e1 : Dy.mul a b = told ⟨a.neg != b.neg, a.n * b.n, a.e + b.e⟩ := if_pos ⟨ma, mb⟩
  have hm := mul_snd ha hb (by omega) (by omega) (by rw [show nv la = a.n by rw [ea'], show nv lb = b.n by rw [eb']]; omega)
  rw [show nv la = a.n by rw [ea'], show nv lb = b.n by rw [eb']] at hm
  have := nlen_mul_le a.n b.n
  have c := told_snd (d := ⟨a.neg != b.neg, a.n * b.n, a.e + b.e⟩) (by show nlen _ ≤ 31000; dsimp only; omega) (by unfold Exs; dsimp only; omega)
  have hw : IntKind.wrap .i64 (ea + eb) = a.e + b.e := by rw [show ea = a.e by rw [ea'], show eb = b.e by rw [eb'], wI (by omega) (by omega)]
  have hs : (!(na == nb)) = (a.neg != b.neg) := by rw [ea', eb']; rfl
  rw [← hw, ← hs] at c
  rw [e1, ← hw, ← hs]
  rw [ma] at va
  rw [mb] at vb
  repeat (conv => whnf); first | refine br_tt ?_ | refine br_ff ?_ | refine ⟨_, va, ?_⟩ | refine ⟨_, vb, ?_⟩ | refine ⟨_, hm, ?_⟩ | refine ⟨_, c, ?_⟩ | refine And.intro (by kernel_rfl) ?_
  rfl
theorem dplain_snd (ha : Ok la) (hla : la.length ≤ 1000) : Snd Try.prog 47 [.g (dL na la ea)] (rA (if Dy.may ⟨na, nv la, ea⟩ = true then (Dy.plain ⟨na, nv la, ea⟩, 0) else (Dy.zero, 3))) := by
  have va := may_snd (neg := na) (e := ea) ha (by omega)
  refine snd_of ttOk mixed Try.func47 Try.ntmps47 rfl (by kernel_rfl) rfl ?_
  by_cases h : Dy.may ⟨na, nv la, ea⟩ = true
  · have c := plain_snd (neg := na) ha hla (may_exs h)
    rw [if_pos h]
    rw [h] at va
    repeat (conv => whnf); first | refine br_tt ?_ | refine br_ff ?_ | refine ⟨_, va, ?_⟩ | refine ⟨_, c, ?_⟩ | refine And.intro (by kernel_rfl) ?_
    rfl
  · rw [if_neg h, rA_zero]
    rw [Bool.not_eq_true] at h
    rw [h] at va
    repeat (conv => whnf); first | refine br_tt ?_ | refine br_ff ?_ | refine ⟨_, va, ?_⟩ | refine And.intro (by kernel_rfl) ?_
    rfl
theorem dtop_snd (ha : Ok la) (hla : la.length ≤ 1000) : Snd Try.prog 77 [.g (dL na la ea)] (.t [.a (iA (Dy.top ⟨na, nv la, ea⟩).1), .a (iA (Dy.top ⟨na, nv la, ea⟩).2)]) := by
  have va := may_snd (neg := na) (e := ea) ha (by omega)
  have vl := len_snd ha (by omega)
  refine snd_of ttOk mixed Try.func77 Try.ntmps77 rfl (by kernel_rfl) rfl ?_
  have z := beq_len0 (n := nv la)
  unfold Dy.top
  by_cases h : Dy.may ⟨na, nv la, ea⟩ = true
  · have hb := may_sm na h
    rw [if_pos h]
    rw [h] at va
    by_cases h0 : nv la = 0
    · rw [if_pos (show (⟨na, nv la, ea⟩ : Dy).n = 0 from h0)]
      rw [decide_eq_true h0] at z
      repeat (conv => whnf); first | refine br_tt ?_ | refine br_ff ?_ | refine br_t z ?_ | refine ⟨_, va, ?_⟩ | refine ⟨_, vl, ?_⟩ | refine And.intro (by kernel_rfl) ?_
      rfl
    · rw [if_neg (show ¬ (⟨na, nv la, ea⟩ : Dy).n = 0 from h0)]
      rw [decide_eq_false h0] at z
      repeat (conv => whnf); first | refine br_tt ?_ | refine br_ff ?_ | refine br_f z ?_ | refine ⟨_, va, ?_⟩ | refine ⟨_, vl, ?_⟩ | refine And.intro (by kernel_rfl) ?_
      show AV.t [.a (iA (IntKind.wrap .i64 (IntKind.wrap .i64 (ea + nlen (nv la)) - 1))), .a (iA 0)] = _
      rw [wI (x := ea + _) (by omega) (by omega), wI (by omega) (by omega)]
  · rw [if_neg h]
    rw [Bool.not_eq_true] at h
    rw [h] at va
    repeat (conv => whnf); first | refine br_tt ?_ | refine br_ff ?_ | refine ⟨_, va, ?_⟩ | refine And.intro (by kernel_rfl) ?_
    rfl
end
end Go.Proofs.Ytlaffgojgfdlnaa.A
