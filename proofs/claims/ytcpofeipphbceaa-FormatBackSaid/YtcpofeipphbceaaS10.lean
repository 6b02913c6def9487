/- The contracts of the references of layers 1 and 2: sizes, plain forms, what is told, places and floors, for all numbers of at most a thousand parts. -/
import Derived.Test.YtcpofeipphbceaaS7
import Derived.Test.YtcpofeipphbceaaPx4
set_option linter.unusedVariables false
set_option linter.unusedSimpArgs false
set_option linter.constructorNameAsVariable false
set_option maxRecDepth 100000
set_option maxHeartbeats 4000000
namespace Go.Proofs.Ytcpofeipphbceaa.A
open Go.RowKit Go.Proofs.Ytcpofeipphbceaa.P Go.Proofs.YtcpofeipphbceaaW.PrintWords Go.Proofs.YtcpofeipphbceaaW.PrintMore Go.Proofs.Ytcpofeipphbceaa.N Sk Dy
/-! ### The reference of layer 1, where layer 2's asks it -/
theorem rleft_snd {n : Nat} {k : Int} (h0 : 0 ≤ k) (h1 : k ≤ 100000000) (hn : nlen n ≤ 100000000) : Snd Try.prog 56 [.a (bA n), .a (iA k)] (.a (bA (n * 2 ^ k.toNat))) := by
  refine ⟨⟨_, Try.func56, by kernel_rfl, rfl⟩, fun w Pk vs hvs => ?_⟩
  obtain ⟨v, u, rfl, hv, rfl⟩ := args2 hvs
  obtain ⟨A, c, rfl, hc, hf⟩ := (show Kd.V Kd.bool 0 w 0 Pk v (bts n) from hv)
  refine (slipstickref01_Left.calls Pk A c (bts n) k _ w ⟨A, c, rfl, hc, hf⟩ (rleft_eq n k h0 h1 hn)).mono ?_
  rintro e w' ⟨v, rfl, hv, hb⟩
  exact ⟨_, rfl, hv, hb⟩
/-! ### The reference of layer 2 -/
abbrev eA (d : Dy) : List AA := [.b d.neg, bA d.n, iA d.e]
abbrev sA (r : Dy × Int) : AV := .t [.g (eA r.1), .a (iA r.2)]
theorem eA_zero : eA Dy.zero = [.b false, .w [], .i .i64 0] := by show [AA.b false, .w (bts 0), .i .i64 0] = _; rw [bits_zero]
theorem sA_zero (m : Int) : sA (Dy.zero, m) = .t [.g [.b false, .w [], .i .i64 0], .a (iA m)] := by show AV.t [.g (eA Dy.zero), _] = _; rw [eA_zero]
theorem beq_blen {n : Nat} : (((bts n).length : Int) == 0) = decide (n = 0) := beq_len0
theorem r2of_snd {neg : Bool} {l : List Int} {e : Int} (h : Ok l) (hl : l.length ≤ 100000) : Snd Try.prog 36 [.a (.b neg), .a (.v .u32 l), .a (iA e)] (.g [.b neg, bA (nv l), iA e]) := by
  refine snd_of ttOk mixed Try.func36 Try.ntmps36 rfl (by kernel_rfl) rfl ?_
  repeat (conv => whnf); first | refine ⟨_, rof_snd h hl, ?_⟩ | refine br_tt ?_ | refine br_ff ?_ | refine And.intro (by kernel_rfl) ?_
  rfl
theorem rmay_snd (d : Dy) : Snd Try.prog 54 [.g (eA d)] (.a (.b d.may)) := by
  refine snd_of ttOk mixed Try.func54 Try.ntmps54 rfl (by kernel_rfl) rfl ?_
  have hb : ((bts d.n).length : Int) = nlen d.n := rfl
  unfold Dy.may
  by_cases h1 : nlen d.n ≤ 4096
  · have z1 : decide (((bts d.n).length : Int) ≤ 4096) = true := decide_eq_true (by omega)
    rw [decide_eq_true h1, Bool.true_and]
    by_cases h2 : -8192 ≤ d.e
    · have z2 : decide (d.e ≥ -8192) = true := decide_eq_true h2
      rw [decide_eq_true h2, Bool.true_and]
      repeat (conv => whnf); first | refine br_t z1 ?_ | refine br_t z2 ?_ | refine br_tt ?_ | refine br_ff ?_ | refine And.intro (by kernel_rfl) ?_
      rfl
    · have z2 : decide (d.e ≥ -8192) = false := decide_eq_false h2
      rw [decide_eq_false h2, Bool.false_and]
      repeat (conv => whnf); first | refine br_t z1 ?_ | refine br_f z2 ?_ | refine br_tt ?_ | refine br_ff ?_ | refine And.intro (by kernel_rfl) ?_
      rfl
  · have z1 : decide (((bts d.n).length : Int) ≤ 4096) = false := decide_eq_false (by omega)
    rw [decide_eq_false h1, Bool.false_and]
    repeat (conv => whnf); first | refine br_f z1 ?_ | refine br_tt ?_ | refine br_ff ?_ | refine And.intro (by kernel_rfl) ?_
    rfl
theorem rplain_snd {d : Dy} (hn : nlen d.n ≤ 1000000) (he : -10000000 ≤ d.e ∧ d.e ≤ 10000000) : Snd Try.prog 47 [.g (eA d)] (.g (eA d.plain)) := by
  refine snd_of ttOk mixed Try.func47 Try.ntmps47 rfl (by kernel_rfl) rfl ?_
  have z := beq_blen (n := d.n)
  by_cases h0 : d.n = 0
  · rw [decide_eq_true h0] at z
    rw [plain_zero h0, eA_zero]
    repeat (conv => whnf); first | refine br_t z ?_ | refine br_tt ?_ | refine br_ff ?_ | refine And.intro (by kernel_rfl) ?_
    rfl
  · have ht := tz_lt_nlen h0
    rw [decide_eq_false h0] at z
    have c := rzeros_snd (n := d.n) (by omega)
    have hb : ((bts d.n).length : Int) = nlen d.n := rfl
    have hcut : (0 : Int) ≤ ((tz d.n : Nat) : Int) ∧ ((tz d.n : Nat) : Int) ≤ ((bts d.n).length : Int) := by omega
    repeat (conv => whnf); first | refine br_f z ?_ | refine ⟨_, c, ?_⟩ | refine And.intro hcut ?_ | refine br_tt ?_ | refine br_ff ?_ | refine And.intro (by kernel_rfl) ?_
    show AV.g [.b d.neg, .w ((bts d.n).drop (((tz d.n : Nat) : Int)).toNat), iA (IntKind.wrap .i64 (d.e + (tz d.n : Nat)))] = _
    rw [Int.toNat_natCast, drop_bits, wI (by omega) (by omega), plain_pos h0]
abbrev gA (r : Dy × Bool × Int) : AV := .t [.g (eA r.1), .a (.b r.2.1), .a (iA r.2.2)]
theorem gA_zero (m : Int) : gA (Dy.zero, false, m) = .t [.g [.b false, .w [], .i .i64 0], .a (.b false), .a (iA m)] := by show AV.t [.g (eA Dy.zero), _, _] = _; rw [eA_zero]
end Go.Proofs.Ytcpofeipphbceaa.A
