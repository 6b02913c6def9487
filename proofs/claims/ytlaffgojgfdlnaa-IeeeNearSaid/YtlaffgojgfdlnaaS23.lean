/- The contracts of round.To and round.Neighbours, for all numbers of at most a thousand parts. -/
import Derived.Test.YtlaffgojgfdlnaaS22
set_option linter.unusedVariables false
set_option linter.unusedSimpArgs false
set_option linter.constructorNameAsVariable false
set_option linter.unusedSectionVars false
set_option maxRecDepth 100000
set_option maxHeartbeats 8000000
namespace Go.Proofs.Ytlaffgojgfdlnaa.A
open Go.RowKit Go.Proofs.Ytlaffgojgfdlnaa.P Go.Proofs.YtlaffgojgfdlnaaW.PrintWords Go.Proofs.YtlaffgojgfdlnaaW.PrintMore Go.Proofs.Ytlaffgojgfdlnaa.N Sk Dy
/-! ### round.To and round.Neighbours -/
abbrev tA (r : Nat × Int × Int) : AV := .t [.a (uA r.1), .a (iA r.2.1), .a (iA r.2.2)]
theorem ctn_lt {f : Fm} {q : Dy} (h0 : q.n ≠ 0) : f.ctn q < 2 ^ f.p := by
  obtain ⟨_, e, _⟩ := Fm.cut_eq (f := f) h0 (E := min q.e f.low) (by omega) (by omega) rfl rfl
  rw [e, Nat.div_lt_iff_lt_mul (Nat.two_pow_pos _), ← Nat.pow_add, Nat.add_comm]
  exact nlen_le_iff.1 (kp_ge _ _ _).2
theorem len_nil_snd : Snd Try.prog 38 [.a (.v .u32 [])] (.a (iA 0)) := by
  have := len_snd' (n := 0) (by show nlen 0 ≤ 31000; rw [nlen_zero]; omega)
  rw [show nA 0 = .v .u32 [] by (show AA.v .u32 (parts 0) = _; rw [parts_zero]), nlen_zero] at this
  exact this
theorem odd_eq (n : Nat) : ((((n / 2 ^ 0 % 2 : Nat) : Int)) == 1) = odd n := by
  rw [show (1 : Int) = ((1 : Nat) : Int) from rfl, beqN, Nat.pow_zero, Nat.div_one]; rfl
section
variable {f : Fm} (h : f.ok)
include h
theorem to_snd {mode : Int} {ng : Bool} {l : List Int} {e : Int} (ho : Ok l) (hl : l.length ≤ 1000) (neg : Bool) : Snd Try.prog 22 [.g (fmA f), .a (iA mode), .g (dL ng l e), .a (.b neg)] (tA (f.rto mode ⟨ng, nv l, e⟩ neg)) := by
  have hB := Fm.bounds h
  have c1 := taken_snd (neg := ng) (e := e) ho hl
  obtain ⟨a, ea⟩ : ∃ a, a = (⟨ng, nv l, e⟩ : Dy) := ⟨_, rfl⟩
  rw [← ea] at c1 ⊢
  refine snd_of ttOk mixed Try.func22 Try.ntmps22 rfl (by kernel_rfl) rfl ?_
  unfold Fm.rto
  by_cases m1 : mode < 0
  · rw [if_pos (.inl m1)]
    have z1 := decide_eq_true m1
    repeat (conv => whnf); first | refine br_tt ?_ | refine br_ff ?_ | refine br_t z1 ?_ | refine And.intro (by kernel_rfl) ?_ | refine And.intro (by decide) ?_
    rfl
  have z1 := decide_eq_false m1
  by_cases m2 : mode ≥ 5
  · rw [if_pos (.inr m2)]
    have z2 := decide_eq_true m2
    repeat (conv => whnf); first | refine br_tt ?_ | refine br_ff ?_ | refine br_f z1 ?_ | refine br_t z2 ?_ | refine And.intro (by kernel_rfl) ?_ | refine And.intro (by decide) ?_
    rfl
  have z2 := decide_eq_false m2
  rw [if_neg (by omega)]
  unfold tk at c1
  by_cases hr : rmay a = true
  case neg =>
    rw [if_neg hr, rA_zero] at c1
    rw [if_neg hr]
    repeat (conv => whnf); first | refine br_tt ?_ | refine br_ff ?_ | refine ⟨_, c1, ?_⟩ | refine br_f z1 ?_ | refine br_f z2 ?_ | refine And.intro (by kernel_rfl) ?_ | refine And.intro (by decide) ?_
    rfl
  rw [if_pos hr] at c1 ⊢
  by_cases h0 : a.n = 0
  · rw [plain_zero h0, rA_zero] at c1
    have c2 := fnought_snd h neg
    rw [if_pos h0]
    repeat (conv => whnf); first | refine br_tt ?_ | refine br_ff ?_ | refine ⟨_, c1, ?_⟩ | refine ⟨_, len_nil_snd, ?_⟩ | refine ⟨_, c2, ?_⟩ | refine br_f z1 ?_ | refine br_f z2 ?_ | refine And.intro (by kernel_rfl) ?_ | refine And.intro (by decide) ?_
    rfl
  rw [if_neg h0]
  have hr2 := rmay_plain hr
  have q0 : a.plain.n ≠ 0 := fun z => h0 (plain_n.1 z)
  have qp := plain_plain a
  generalize a.plain = q at *
  have qm := (rmay_iff.1 hr2).1
  have b := may_iff.1 qm
  have pb := plc_b h qm
  have zq := beq_len0 (n := q.n)
  rw [decide_eq_false q0] at zq
  have cl := len_snd' (may_few qm)
  have c3 := rcut_snd h qm q0
  have c4 := (tiny_snd' h (may_few qm)).to (r' := .a (.b (f.tny q))) (by unfold tiny; rw [hr2, qp, show decide (q.n ≠ 0) = true by simp [q0]]; rfl)
  have lt := ctn_lt (f := f) q0
  have nl := nlen_le_iff.2 lt
  have fc : Few (f.ctn q) := by show nlen _ ≤ 31000; omega
  have c5 := bit_snd' fc 0 (by omega)
  have c6 := (away_snd mode q.neg ((((f.ctn q / 2 ^ 0 % 2 : Nat) : Int)) == 1) (hf (f.kr q) q.n) (ls (f.kr q) q.n)).to (r' := .a (.b (f.ctu mode q))) (by rw [odd_eq]; rfl)
  have c7 := of_snd (n := 1) (by omega) (by omega)
  have f1 : Few (Int.toNat 1) := by show nlen 1 ≤ 31000; decide +kernel
  have c8 := add_snd' fc f1
  have c9 := place_snd h qm q0
  have c11 := beyond_snd h mode q.neg
  have c13 := fnought_snd h q.neg
  unfold Fm.rpl
  generalize hf (f.kr q) q.n = half at *
  generalize ls (f.kr q) q.n = less at *
  generalize f.tny q = ty at *
  generalize f.ctu mode q = up at *
  have hlt : f.ctn q + 1 < 2 ^ (f.p + 1) := by rw [Nat.pow_succ]; omega
  have fn1 : Few (f.ctn q + 1) := by show nlen _ ≤ 31000; have := nlen_le_iff.2 hlt; omega
  cases up
  · have c10 := fput_snd' h (d := ⟨q.neg, f.ctn q, f.plc q⟩) fc
    have c12 := len_snd' fc
    have zn := beq_len0 (n := f.ctn q)
    rw [show f.ctn q + (if false = true then 1 else 0) = f.ctn q from rfl]
    generalize f.put ⟨q.neg, f.ctn q, f.plc q⟩ = r at *
    by_cases hp : r.2 = 0
    · have zp : (r.2 != 0) = false := by rw [hp]; rfl
      rw [if_neg (by simp [hp])]
      by_cases hn : f.ctn q = 0
      · rw [decide_eq_true hn] at zn
        rw [if_pos hn]
        cases half <;> cases less <;> cases ty
        all_goals
          repeat (conv => whnf); first | refine br_tt ?_ | refine br_ff ?_ | refine ⟨_, c1, ?_⟩ | refine ⟨_, cl, ?_⟩ | refine ⟨_, c3, ?_⟩ | refine ⟨_, c4, ?_⟩ | refine ⟨_, c5, ?_⟩ | refine ⟨_, c6, ?_⟩ | refine ⟨_, c9, ?_⟩ | refine ⟨_, c10, ?_⟩ | refine ⟨_, c11, ?_⟩ | refine ⟨_, c12, ?_⟩ | refine ⟨_, c13, ?_⟩ | refine br_f z1 ?_ | refine br_f z2 ?_ | refine br_f zq ?_ | refine br_f zp ?_ | refine br_t zn ?_ | refine And.intro (by kernel_rfl) ?_ | refine And.intro (by decide) ?_
          rfl
      · rw [decide_eq_false hn] at zn
        rw [if_neg hn]
        cases half <;> cases less <;> cases ty
        all_goals
          repeat (conv => whnf); first | refine br_tt ?_ | refine br_ff ?_ | refine ⟨_, c1, ?_⟩ | refine ⟨_, cl, ?_⟩ | refine ⟨_, c3, ?_⟩ | refine ⟨_, c4, ?_⟩ | refine ⟨_, c5, ?_⟩ | refine ⟨_, c6, ?_⟩ | refine ⟨_, c9, ?_⟩ | refine ⟨_, c10, ?_⟩ | refine ⟨_, c11, ?_⟩ | refine ⟨_, c12, ?_⟩ | refine ⟨_, c13, ?_⟩ | refine br_f z1 ?_ | refine br_f z2 ?_ | refine br_f zq ?_ | refine br_f zp ?_ | refine br_f zn ?_ | refine And.intro (by kernel_rfl) ?_ | refine And.intro (by decide) ?_
          rfl
    · have zp : (r.2 != 0) = true := by rw [bne_iff_ne]; exact hp
      rw [if_pos hp]
      cases half <;> cases less <;> cases ty
      all_goals
        repeat (conv => whnf); first | refine br_tt ?_ | refine br_ff ?_ | refine ⟨_, c1, ?_⟩ | refine ⟨_, cl, ?_⟩ | refine ⟨_, c3, ?_⟩ | refine ⟨_, c4, ?_⟩ | refine ⟨_, c5, ?_⟩ | refine ⟨_, c6, ?_⟩ | refine ⟨_, c9, ?_⟩ | refine ⟨_, c10, ?_⟩ | refine ⟨_, c11, ?_⟩ | refine ⟨_, c12, ?_⟩ | refine ⟨_, c13, ?_⟩ | refine br_f z1 ?_ | refine br_f z2 ?_ | refine br_f zq ?_ | refine br_t zp ?_ | refine And.intro (by kernel_rfl) ?_ | refine And.intro (by decide) ?_
        rfl
  · have c10 := fput_snd' h (d := ⟨q.neg, f.ctn q + 1, f.plc q⟩) fn1
    have c12 := len_snd' fn1
    have zn := beq_len0 (n := f.ctn q + 1)
    rw [decide_eq_false (by omega)] at zn
    rw [show f.ctn q + (if true = true then 1 else 0) = f.ctn q + 1 from rfl]
    generalize f.put ⟨q.neg, f.ctn q + 1, f.plc q⟩ = r at *
    by_cases hp : r.2 = 0
    · have zp : (r.2 != 0) = false := by rw [hp]; rfl
      rw [if_neg (by simp [hp]), if_neg (by omega)]
      cases half <;> cases less <;> cases ty
      all_goals
        repeat (conv => whnf); first | refine br_tt ?_ | refine br_ff ?_ | refine ⟨_, c1, ?_⟩ | refine ⟨_, cl, ?_⟩ | refine ⟨_, c3, ?_⟩ | refine ⟨_, c4, ?_⟩ | refine ⟨_, c5, ?_⟩ | refine ⟨_, c6, ?_⟩ | refine ⟨_, c7, ?_⟩ | refine ⟨_, c8, ?_⟩ | refine ⟨_, c9, ?_⟩ | refine ⟨_, c10, ?_⟩ | refine ⟨_, c11, ?_⟩ | refine ⟨_, c12, ?_⟩ | refine ⟨_, c13, ?_⟩ | refine br_f z1 ?_ | refine br_f z2 ?_ | refine br_f zq ?_ | refine br_f zp ?_ | refine br_f zn ?_ | refine And.intro (by kernel_rfl) ?_ | refine And.intro (by decide) ?_
        rfl
    · have zp : (r.2 != 0) = true := by rw [bne_iff_ne]; exact hp
      rw [if_pos hp]
      cases half <;> cases less <;> cases ty
      all_goals
        repeat (conv => whnf); first | refine br_tt ?_ | refine br_ff ?_ | refine ⟨_, c1, ?_⟩ | refine ⟨_, cl, ?_⟩ | refine ⟨_, c3, ?_⟩ | refine ⟨_, c4, ?_⟩ | refine ⟨_, c5, ?_⟩ | refine ⟨_, c6, ?_⟩ | refine ⟨_, c7, ?_⟩ | refine ⟨_, c8, ?_⟩ | refine ⟨_, c9, ?_⟩ | refine ⟨_, c10, ?_⟩ | refine ⟨_, c11, ?_⟩ | refine ⟨_, c12, ?_⟩ | refine ⟨_, c13, ?_⟩ | refine br_f z1 ?_ | refine br_f z2 ?_ | refine br_f zq ?_ | refine br_t zp ?_ | refine And.intro (by kernel_rfl) ?_ | refine And.intro (by decide) ?_
        rfl
theorem to_snd' {mode : Int} {d : Dy} (hn : Few d.n) (neg : Bool) : Snd Try.prog 22 [.g (fmA f), .a (iA mode), .g (dA d), .a (.b neg)] (tA (f.rto mode d neg)) := by
  have := to_snd h (mode := mode) (ng := d.neg) (e := d.e) (few_ok hn).1 (few_ok hn).2 neg
  rwa [nv_parts] at this
end
/-- The neighbours. -/
def nbr (f : Fm) (a : Dy) : Dy × Dy × Int :=
  if rmay a = true then (if a.n = 0 then (Dy.zero, Dy.zero, 0) else
    (Dy.plain ⟨a.plain.neg, f.ctn a.plain, f.plc a.plain⟩, Dy.plain ⟨a.plain.neg, f.ctn a.plain + (if (hf (f.kr a.plain) a.plain.n || ls (f.kr a.plain) a.plain.n) = true then 1 else 0), f.plc a.plain⟩, 0)) else (Dy.zero, Dy.zero, 3)
abbrev mA (r : Dy × Dy × Int) : AV := .t [.g (dA r.1), .g (dA r.2.1), .a (iA r.2.2)]
section
variable {f : Fm} (h : f.ok)
include h
end
end Go.Proofs.Ytlaffgojgfdlnaa.A
