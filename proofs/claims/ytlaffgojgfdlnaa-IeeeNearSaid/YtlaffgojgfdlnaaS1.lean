/- The contracts of dyad's inner functions within, may, plain and told, for all numbers of at most a thousand parts. -/
import Derived.Test.YtlaffgojgfdlnaaS0
import Derived.Test.YtlaffgojgfdlnaaN20
set_option linter.unusedVariables false
set_option linter.unusedSimpArgs false
set_option linter.constructorNameAsVariable false
set_option maxRecDepth 100000
set_option maxHeartbeats 4000000
namespace Go.Proofs.Ytlaffgojgfdlnaa.A
open Go.RowKit Go.Proofs.Ytlaffgojgfdlnaa.P Go.Proofs.YtlaffgojgfdlnaaW.PrintWords Go.Proofs.YtlaffgojgfdlnaaW.PrintMore Go.Proofs.Ytlaffgojgfdlnaa.N Sk
/-! ### dyad -/
abbrev dA (d : Dy) : List AA := [.b d.neg, nA d.n, iA d.e]
abbrev dL (neg : Bool) (l : List Int) (e : Int) : List AA := [.b neg, .v .u32 l, iA e]
theorem within_snd (e : Int) : Snd Try.prog 69 [.a (iA e)] (.a (.b (decide (-8192 ≤ e) && decide (e ≤ 8192)))) := by
  refine snd_of ttOk mixed Try.func69 Try.ntmps69 rfl (by kernel_rfl) rfl ?_
  by_cases h1 : -8192 ≤ e
  · rw [decide_eq_true h1]
    have h1 := decide_eq_true h1
    refine br_t h1 ?_
    refine br_t h1 ?_
    refine br_t h1 ?_
    exact ⟨rfl, rfl⟩
  · rw [decide_eq_false h1]
    have h1 := decide_eq_false h1
    refine br_f h1 ?_
    refine br_f h1 ?_
    refine br_f h1 ?_
    exact ⟨rfl, rfl⟩
theorem may_snd {neg : Bool} {l : List Int} {e : Int} (h : Ok l) (hl : l.length ≤ 100000) : Snd Try.prog 36 [.g (dL neg l e)] (.a (.b (Dy.may ⟨neg, nv l, e⟩))) := by
  refine snd_of ttOk mixed Try.func36 Try.ntmps36 rfl (by kernel_rfl) rfl ?_
  refine ⟨_, len_snd h hl, ?_⟩
  unfold Dy.may
  by_cases h1 : nlen (nv l) ≤ 4096
  · have h2 : decide ((nlen (nv l) : Int) ≤ 4096) = true := decide_eq_true (by omega)
    rw [decide_eq_true h1, Bool.true_and]
    repeat (conv => whnf); first | refine br_tt ?_ | refine br_ff ?_ | refine br_t h2 ?_ | refine ⟨_, within_snd e, ?_⟩
    exact ⟨rfl, rfl⟩
  · have h2 : decide ((nlen (nv l) : Int) ≤ 4096) = false := decide_eq_false (by omega)
    rw [decide_eq_false h1, Bool.false_and]
    repeat (conv => whnf); first | refine br_tt ?_ | refine br_ff ?_ | refine br_f h2 ?_
    exact ⟨rfl, rfl⟩

theorem plain_snd {neg : Bool} {l : List Int} {e : Int} (h : Ok l) (hl : l.length ≤ 1000) (he : Exs e) : Snd Try.prog 37 [.g (dL neg l e)] (.g (dA (Dy.plain ⟨neg, nv l, e⟩))) := by
  refine snd_of ttOk mixed Try.func37 Try.ntmps37 rfl (by kernel_rfl) rfl ?_
  refine ⟨_, len_snd h (by omega), ?_⟩
  by_cases h0 : nv l = 0
  · have h1 : ((nlen (nv l) : Int) == 0) = true := by rw [h0, nlen_zero]; rfl
    rw [plain_zero (a := ⟨neg, nv l, e⟩) h0]
    repeat (conv => whnf); first | refine br_tt ?_ | refine br_ff ?_ | refine br_t h1 ?_
    refine ⟨rfl, ?_⟩
    show AV.g [.b false, .v .u32 [], .i .i64 0] = AV.g [.b false, .v .u32 (parts 0), .i .i64 0]
    rw [parts_zero]
  · have hz := nlen_eq_zero (n := nv l)
    have ht := tz_lt_nlen h0
    have hn := nlen_nv h
    have h1 : ((nlen (nv l) : Int) == 0) = false := by rw [beq_eq_false_iff_ne]; omega
    unfold Exs at he
    repeat (conv => whnf); first | refine br_tt ?_ | refine br_ff ?_ | refine br_f h1 ?_
    refine ⟨_, zeros_snd h (by omega), ?_⟩
    refine ⟨_, right_snd h (by omega) _, ?_⟩
    refine ⟨rfl, ?_⟩
    rw [plain_pos (a := ⟨neg, nv l, e⟩) h0]
    show AV.g [.b neg, nA (rightN (nv l) (tz (nv l) : Nat)), iA (IntKind.wrap .i64 (e + (tz (nv l) : Nat)))] = _
    rw [wI (by omega) (by omega)]
    unfold rightN
    rw [Int.toNat_natCast]
/-- A number in the program's hands: of few parts. -/
abbrev Few (n : Nat) : Prop := nlen n ≤ 31000
theorem few_ok {n : Nat} (h : Few n) : Ok (parts n) ∧ (parts n).length ≤ 1000 := ⟨(sm_parts h).ok, (sm_parts h).len⟩
theorem plain_snd' {d : Dy} (h : Few d.n) (he : Exs d.e) : Snd Try.prog 37 [.g (dA d)] (.g (dA d.plain)) := by
  have := plain_snd (neg := d.neg) (few_ok h).1 (few_ok h).2 he
  rwa [nv_parts] at this
theorem may_snd' {d : Dy} (h : Few d.n) : Snd Try.prog 36 [.g (dA d)] (.a (.b d.may)) := by
  have := may_snd (neg := d.neg) (e := d.e) (few_ok h).1 (by have := (few_ok h).2; omega)
  rwa [nv_parts] at this
theorem len_snd' {n : Nat} (h : Few n) : Snd Try.prog 38 [.a (nA n)] (.a (iA (nlen n))) := by
  have := len_snd (few_ok h).1 (by have := (few_ok h).2; omega)
  rwa [nv_parts] at this
theorem few_plain {d : Dy} (h : Few d.n) : Few d.plain.n := Nat.le_trans (plain_nlen_le d) h
theorem told_snd {d : Dy} (h : Few d.n) (he : Exs d.e) : Snd Try.prog 50 [.g (dA d)] (.t [.g (dA (Dy.told d).1), .a (iA (Dy.told d).2)]) := by
  refine snd_of ttOk mixed Try.func50 Try.ntmps50 rfl (by kernel_rfl) rfl ?_
  refine ⟨_, plain_snd' h he, ?_⟩
  refine ⟨_, may_snd' (few_plain h), ?_⟩
  unfold Dy.told
  by_cases h1 : d.plain.may = true
  · rw [if_pos h1]
    refine br_f (by rw [h1]; rfl) ?_
    exact ⟨rfl, rfl⟩
  · rw [if_neg h1]
    refine br_t (by rw [Bool.not_eq_true] at h1; rw [h1]; rfl) ?_
    refine ⟨rfl, ?_⟩
    show AV.t [.g [.b false, .v .u32 [], .i .i64 0], .a (iA 6)] = AV.t [.g [.b false, .v .u32 (parts 0), .i .i64 0], .a (iA 6)]
    rw [parts_zero]
end Go.Proofs.Ytlaffgojgfdlnaa.A
