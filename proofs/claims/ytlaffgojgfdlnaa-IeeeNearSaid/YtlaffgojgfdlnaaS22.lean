/- The contracts of round's taken, place, cut, away, Beyond and Tiny, for all numbers of at most a thousand parts. -/
import Derived.Test.YtlaffgojgfdlnaaS21
import Derived.Test.YtlaffgojgfdlnaaN48
import Derived.Test.YtlaffgojgfdlnaaPx3
set_option linter.unusedVariables false
set_option linter.unusedSimpArgs false
set_option linter.constructorNameAsVariable false
set_option linter.unusedSectionVars false
set_option maxRecDepth 100000
set_option maxHeartbeats 4000000
namespace Go.Proofs.Ytlaffgojgfdlnaa.A
open Go.RowKit Go.Proofs.Ytlaffgojgfdlnaa.P Go.Proofs.YtlaffgojgfdlnaaW.PrintWords Go.Proofs.YtlaffgojgfdlnaaW.PrintMore Go.Proofs.Ytlaffgojgfdlnaa.N Sk Dy
/-! ### round -/
theorem few0 : Few Dy.zero.n := by show nlen _ ≤ 31000; rw [zero_nlen]; omega
theorem top_zero : Dy.top Dy.zero = (0, 1) := by decide +kernel
theorem bit_snd {l : List Int} (h : Ok l) (i : Int) (h1 : i < 9223372036854775808) : Snd Try.prog 61 [.a (.v .u32 l), .a (iA i)] (.a (iA (if 0 ≤ i ∧ (nv l).testBit i.toNat = true then 1 else 0))) := by
  refine ⟨⟨_, Try.func61, by kernel_rfl, rfl⟩, fun w Pk vs hvs => ?_⟩
  obtain ⟨v, u, rfl, ⟨A, c, rfl, hc, hf⟩, rfl⟩ := args2 hvs
  refine (nat_Nat_Bit.calls A c l i _ w (Kd.F_now hf) hc (bit_eq h i h1)).mono ?_
  rintro e w' ⟨rfl, hb⟩
  exact ⟨_, rfl, rfl, hb.below⟩
theorem bit_snd' {n : Nat} (hn : Few n) (k : Nat) (hk : k < 100000) : Snd Try.prog 61 [.a (nA n), .a (iA (k : Int))] (.a (iA (((n / 2 ^ k % 2 : Nat) : Int)))) := by
  have := bit_snd (few_ok hn).1 (k : Int) (by omega)
  rw [nv_parts, Int.toNat_natCast, Nat.testBit_eq_decide_div_mod_eq] at this
  refine this.to ?_
  have := Nat.mod_two_eq_zero_or_one (n / 2 ^ k)
  congr 2
  rcases this with e | e <;> rw [e] <;> simp
theorem right_snd' {n : Nat} (hn : Few n) (k : Nat) : Snd Try.prog 71 [.a (nA n), .a (iA (k : Int))] (.t [.a (nA (n / 2 ^ k)), .a (.b (decide (n % 2 ^ k ≠ 0)))]) := by
  have := right_snd (few_ok hn).1 (by have := (few_ok hn).2; omega) (k : Int)
  rw [nv_parts] at this
  unfold rightN rightL at this
  rw [Int.toNat_natCast] at this
  exact this
theorem taken_snd {neg : Bool} {l : List Int} {e : Int} (h : Ok l) (hl : l.length ≤ 1000) : Snd Try.prog 57 [.g (dL neg l e)] (rA (tk ⟨neg, nv l, e⟩)) := by
  have c1 := dplain_snd (na := neg) (ea := e) h hl
  obtain ⟨a, ea⟩ : ∃ a, a = (⟨neg, nv l, e⟩ : Dy) := ⟨_, rfl⟩
  rw [← ea] at c1 ⊢
  have t0 := dtop_snd' few0
  rw [top_zero, dA_zero] at t0
  refine snd_of ttOk mixed Try.func57 Try.ntmps57 rfl (by kernel_rfl) rfl ?_
  unfold tk
  by_cases m1 : a.may = true
  case neg =>
    rw [if_neg (fun k => m1 (rmay_iff.1 k).1), rA_zero]
    rw [if_neg m1, rA_zero] at c1
    repeat (conv => whnf); first | refine br_tt ?_ | refine br_ff ?_ | refine ⟨_, c1, ?_⟩ | refine ⟨_, t0, ?_⟩ | refine And.intro (by kernel_rfl) ?_ | refine And.intro (by decide) ?_
    rfl
  rw [if_pos m1] at c1
  have bp := plain_bounds m1
  have fw : Few a.plain.n := by show nlen _ ≤ 31000; omega
  have c2 := dplain_snd' fw
  have c3 := dtop_snd' fw
  rw [plain_plain] at c2
  by_cases m2 : a.plain.may = true
  case neg =>
    rw [if_neg (fun k => m2 (rmay_iff.1 k).2.1), rA_zero]
    rw [if_neg m2, rA_zero] at c2
    have : Dy.top a.plain = (0, 3) := by unfold Dy.top; rw [if_neg m2]
    rw [this] at c3
    repeat (conv => whnf); first | refine br_tt ?_ | refine br_ff ?_ | refine ⟨_, c1, ?_⟩ | refine ⟨_, c2, ?_⟩ | refine ⟨_, c3, ?_⟩ | refine And.intro (by kernel_rfl) ?_ | refine And.intro (by decide) ?_
    rfl
  rw [if_pos m2] at c2
  by_cases h0 : a.n = 0
  · have : Dy.top a.plain = (0, 1) := by unfold Dy.top; rw [if_pos m2, if_pos (plain_n.2 h0)]
    rw [this] at c3
    rw [if_pos (rmay_iff.2 ⟨m1, m2, .inl h0⟩)]
    repeat (conv => whnf); first | refine br_tt ?_ | refine br_ff ?_ | refine ⟨_, c1, ?_⟩ | refine ⟨_, c2, ?_⟩ | refine ⟨_, c3, ?_⟩ | refine And.intro (by kernel_rfl) ?_ | refine And.intro (by decide) ?_
    rfl
  have : Dy.top a.plain = (a.plain.e + nlen a.plain.n - 1, 0) := by unfold Dy.top; rw [if_pos m2, if_neg (fun z => h0 (plain_n.1 z))]
  rw [this] at c3
  by_cases ht : a.plain.e + nlen a.plain.n - 1 ≤ 8000
  · rw [if_pos (rmay_iff.2 ⟨m1, m2, .inr ht⟩)]
    have z : decide (a.plain.e + (nlen a.plain.n : Int) - 1 > 8000) = false := decide_eq_false (by omega)
    repeat (conv => whnf); first | refine br_tt ?_ | refine br_ff ?_ | refine ⟨_, c1, ?_⟩ | refine ⟨_, c2, ?_⟩ | refine ⟨_, c3, ?_⟩ | refine br_f z ?_ | refine And.intro (by kernel_rfl) ?_ | refine And.intro (by decide) ?_
    rfl
  · rw [if_neg (fun k => (rmay_iff.1 k).2.2.elim h0 ht), rA_zero]
    have z : decide (a.plain.e + (nlen a.plain.n : Int) - 1 > 8000) = true := decide_eq_true (by omega)
    repeat (conv => whnf); first | refine br_tt ?_ | refine br_ff ?_ | refine ⟨_, c1, ?_⟩ | refine ⟨_, c2, ?_⟩ | refine ⟨_, c3, ?_⟩ | refine br_t z ?_ | refine And.intro (by kernel_rfl) ?_ | refine And.intro (by decide) ?_
    rfl
theorem may_few {d : Dy} (h : d.may = true) : Few d.n := by have := may_iff.1 h; show nlen _ ≤ 31000; omega
theorem away_snd (mode : Int) (neg odd half less : Bool) : Snd Try.prog 60 [.a (iA mode), .a (.b neg), .a (.b odd), .a (.b half), .a (.b less)] (.a (.b (upb mode neg odd half less))) := by
  refine snd_of ttOk mixed Try.func60 Try.ntmps60 rfl (by kernel_rfl) rfl ?_
  unfold upb
  by_cases m0 : mode = 0
  · subst m0
    cases odd <;> cases less <;> cases half
    all_goals
      repeat (conv => whnf); first | refine br_tt ?_ | refine br_ff ?_ | refine And.intro (by kernel_rfl) ?_ | refine And.intro (by decide) ?_
      rfl
  have z0 : (mode == 0) = false := by rw [beq_eq_false_iff_ne]; exact m0
  rw [if_neg m0]
  by_cases m4 : mode = 4
  · subst m4
    repeat (conv => whnf); first | refine br_tt ?_ | refine br_ff ?_ | refine br_f z0 ?_ | refine And.intro (by kernel_rfl) ?_ | refine And.intro (by decide) ?_
    rfl
  have z4 : (mode == 4) = false := by rw [beq_eq_false_iff_ne]; exact m4
  rw [if_neg m4]
  by_cases m2 : mode = 2
  · subst m2
    cases neg <;> cases less <;> cases half
    all_goals
      repeat (conv => whnf); first | refine br_tt ?_ | refine br_ff ?_ | refine And.intro (by kernel_rfl) ?_ | refine And.intro (by decide) ?_
      rfl
  have z2 : (mode == 2) = false := by rw [beq_eq_false_iff_ne]; exact m2
  rw [if_neg m2]
  by_cases m3 : mode = 3
  · subst m3
    cases neg <;> cases less <;> cases half
    all_goals
      repeat (conv => whnf); first | refine br_tt ?_ | refine br_ff ?_ | refine And.intro (by kernel_rfl) ?_ | refine And.intro (by decide) ?_
      rfl
  have z3 : (mode == 3) = false := by rw [beq_eq_false_iff_ne]; exact m3
  rw [if_neg m3]
  repeat (conv => whnf); first | refine br_tt ?_ | refine br_ff ?_ | refine br_f z0 ?_ | refine br_f z4 ?_ | refine br_f z2 ?_ | refine br_f z3 ?_ | refine And.intro (by kernel_rfl) ?_ | refine And.intro (by decide) ?_
  rfl
section
variable {f : Fm} (h : f.ok)
include h
theorem place_snd {q : Dy} (m : q.may = true) (h0 : q.n ≠ 0) : Snd Try.prog 62 [.g (fmA f), .g (dA q)] (.a (iA (f.plc q))) := by
  have hB := Fm.bounds h
  have b := may_iff.1 m
  have c1 := dtop_snd' (may_few m)
  rw [show Dy.top q = (q.e + nlen q.n - 1, 0) by unfold Dy.top; rw [if_pos m, if_neg h0]] at c1
  have c2 := low_snd h
  refine snd_of ttOk mixed Try.func62 Try.ntmps62 rfl (by kernel_rfl) rfl ?_
  repeat (conv => whnf); first | refine br_tt ?_ | refine br_ff ?_ | refine ⟨_, c1, ?_⟩ | refine ⟨_, c2, ?_⟩ | refine And.intro (by kernel_rfl) ?_ | refine And.intro (by decide) ?_
  show AV.a (iA (if f.low > IntKind.wrap .i64 (IntKind.wrap .i64 (q.e + (nlen q.n : Int) - 1 - (f.p : Int)) + 1) then f.low else IntKind.wrap .i64 (IntKind.wrap .i64 (q.e + (nlen q.n : Int) - 1 - (f.p : Int)) + 1))) = _
  rw [wI (x := _ - _) (by omega) (by omega), wI (by omega) (by omega), bmax]; rfl
theorem plc_b {q : Dy} (m : q.may = true) : -1074 ≤ f.plc q ∧ f.plc q ≤ 12288 := by
  have hB := Fm.bounds h
  have b := may_iff.1 m
  unfold Fm.plc; omega
theorem rcut_snd {q : Dy} (m : q.may = true) (h0 : q.n ≠ 0) : Snd Try.prog 58 [.g (fmA f), .g (dA q)] (.t [.a (nA (f.ctn q)), .a (.b (hf (f.kr q) q.n)), .a (.b (ls (f.kr q) q.n))]) := by
  have hB := Fm.bounds h
  have b := may_iff.1 m
  have pb := plc_b h m
  have c1 := place_snd h m h0
  have w0 : IntKind.wrap .i64 (f.plc q - q.e) = f.plc q - q.e := wI (by omega) (by omega)
  refine snd_of ttOk mixed Try.func58 Try.ntmps58 rfl (by kernel_rfl) rfl ?_
  by_cases hk : f.plc q - q.e ≤ 0
  · have z : decide (IntKind.wrap .i64 (f.plc q - q.e) ≤ 0) = true := by rw [w0]; exact decide_eq_true hk
    have e0 : f.kr q = 0 := by unfold Fm.kr; omega
    have c2 := left_snd' (may_few m) (k := q.e - f.plc q) (by omega) (by omega) (by omega)
    have w1 : IntKind.wrap .i64 (0 - IntKind.wrap .i64 (f.plc q - q.e)) = q.e - f.plc q := by rw [w0, wI (by omega) (by omega)]; omega
    rw [show (q.e - f.plc q).toNat = f.kl q from rfl, ← w1] at c2
    have ec : f.ctn q = q.n * 2 ^ f.kl q := by unfold Fm.ctn; rw [e0, Nat.pow_zero, Nat.div_one]
    rw [ec, e0, show hf 0 q.n = false by unfold hf; simp, show ls 0 q.n = false by unfold ls; simp]
    repeat (conv => whnf); first | refine br_tt ?_ | refine br_ff ?_ | refine ⟨_, c1, ?_⟩ | refine ⟨_, c2, ?_⟩ | refine br_t z ?_ | refine And.intro (by kernel_rfl) ?_ | refine And.intro (by decide) ?_
    rfl
  · have z : decide (IntKind.wrap .i64 (f.plc q - q.e) ≤ 0) = false := by rw [w0]; exact decide_eq_false hk
    have k0 : f.kr q ≠ 0 := by unfold Fm.kr; omega
    have ek : f.plc q - q.e = ((f.kr q : Nat) : Int) := by unfold Fm.kr; omega
    have el : f.kl q = 0 := by unfold Fm.kl; omega
    have c2 := right_snd' (may_few m) (f.kr q)
    have c3 := right_snd' (may_few m) (f.kr q - 1)
    have c4 := bit_snd' (may_few m) (f.kr q - 1) (by omega)
    have w2 : IntKind.wrap .i64 (IntKind.wrap .i64 (f.plc q - q.e) - 1) = ((f.kr q - 1 : Nat) : Int) := by rw [w0, wI (by omega) (by omega)]; omega
    rw [← ek, ← w0] at c2
    rw [← w2] at c3 c4
    have ec : f.ctn q = q.n / 2 ^ f.kr q := by unfold Fm.ctn; rw [el, Nat.pow_zero, Nat.mul_one]
    have eh : hf (f.kr q) q.n = (((q.n / 2 ^ (f.kr q - 1) % 2 : Nat) : Int) == 1) := by
      unfold hf; rw [show (1 : Int) = ((1 : Nat) : Int) from rfl, beqN]; exact decide_eq_decide.2 ⟨fun x => x.2, fun x => ⟨k0, x⟩⟩
    have els : ls (f.kr q) q.n = decide (q.n % 2 ^ (f.kr q - 1) ≠ 0) := by unfold ls; exact decide_eq_decide.2 ⟨fun x => x.2, fun x => ⟨k0, x⟩⟩
    rw [ec, eh, els]
    repeat (conv => whnf); first | refine br_tt ?_ | refine br_ff ?_ | refine ⟨_, c1, ?_⟩ | refine ⟨_, c2, ?_⟩ | refine ⟨_, c3, ?_⟩ | refine ⟨_, c4, ?_⟩ | refine br_f z ?_ | refine And.intro (by kernel_rfl) ?_ | refine And.intro (by decide) ?_
    rfl
theorem beyond_snd (mode : Int) (neg : Bool) : Snd Try.prog 63 [.g (fmA f), .a (iA mode), .a (.b neg)] (.a (uA (f.beyond mode neg))) := by
  have c1 := fgrt_snd h neg
  have c2 := finf_snd h neg
  refine snd_of ttOk mixed Try.func63 Try.ntmps63 rfl (by kernel_rfl) rfl ?_
  unfold Fm.beyond
  by_cases m1 : mode = 1
  · subst m1
    rw [if_pos (.inl rfl)]
    repeat (conv => whnf); first | refine br_tt ?_ | refine br_ff ?_ | refine ⟨_, c1, ?_⟩ | refine ⟨_, c2, ?_⟩ | refine And.intro (by kernel_rfl) ?_ | refine And.intro (by decide) ?_
    rfl
  have z1 : (mode == 1) = false := by rw [beq_eq_false_iff_ne]; exact m1
  by_cases m2 : mode = 2
  · subst m2
    cases neg
    · rw [if_pos (by simp)]
      repeat (conv => whnf); first | refine br_tt ?_ | refine br_ff ?_ | refine ⟨_, c1, ?_⟩ | refine ⟨_, c2, ?_⟩ | refine And.intro (by kernel_rfl) ?_ | refine And.intro (by decide) ?_
      rfl
    · rw [if_neg (by simp)]
      repeat (conv => whnf); first | refine br_tt ?_ | refine br_ff ?_ | refine ⟨_, c1, ?_⟩ | refine ⟨_, c2, ?_⟩ | refine And.intro (by kernel_rfl) ?_ | refine And.intro (by decide) ?_
      rfl
  have z2 : (mode == 2) = false := by rw [beq_eq_false_iff_ne]; exact m2
  by_cases m3 : mode = 3
  · subst m3
    cases neg
    · rw [if_neg (by simp)]
      repeat (conv => whnf); first | refine br_tt ?_ | refine br_ff ?_ | refine ⟨_, c1, ?_⟩ | refine ⟨_, c2, ?_⟩ | refine And.intro (by kernel_rfl) ?_ | refine And.intro (by decide) ?_
      rfl
    · rw [if_pos (by simp)]
      repeat (conv => whnf); first | refine br_tt ?_ | refine br_ff ?_ | refine ⟨_, c1, ?_⟩ | refine ⟨_, c2, ?_⟩ | refine And.intro (by kernel_rfl) ?_ | refine And.intro (by decide) ?_
      rfl
  have z3 : (mode == 3) = false := by rw [beq_eq_false_iff_ne]; exact m3
  rw [if_neg (by simp [m1, m2, m3])]
  repeat (conv => whnf); first | refine br_tt ?_ | refine br_ff ?_ | refine ⟨_, c1, ?_⟩ | refine ⟨_, c2, ?_⟩ | refine br_f z1 ?_ | refine br_f z2 ?_ | refine br_f z3 ?_ | refine And.intro (by kernel_rfl) ?_ | refine And.intro (by decide) ?_
  rfl
end
/-- Below the least normal number. -/
def tiny (f : Fm) (a : Dy) : Bool := rmay a && (decide (a.n ≠ 0) && f.tny a.plain)
section
variable {f : Fm} (h : f.ok)
include h
theorem tiny_snd {neg : Bool} {l : List Int} {e : Int} (ho : Ok l) (hl : l.length ≤ 1000) : Snd Try.prog 59 [.g (fmA f), .g (dL neg l e)] (.a (.b (tiny f ⟨neg, nv l, e⟩))) := by
  have hB := Fm.bounds h
  have c1 := taken_snd (neg := neg) (e := e) ho hl
  obtain ⟨a, ea⟩ : ∃ a, a = (⟨neg, nv l, e⟩ : Dy) := ⟨_, rfl⟩
  rw [← ea] at c1 ⊢
  have t0 := dtop_snd' few0
  rw [top_zero, dA_zero] at t0
  have c4 := low_snd h
  refine snd_of ttOk mixed Try.func59 Try.ntmps59 rfl (by kernel_rfl) rfl ?_
  unfold tiny
  unfold tk at c1
  by_cases hr : rmay a = true
  case neg =>
    rw [if_neg hr, rA_zero] at c1
    rw [Bool.not_eq_true] at hr
    rw [hr, Bool.false_and]
    repeat (conv => whnf); first | refine br_tt ?_ | refine br_ff ?_ | refine ⟨_, c1, ?_⟩ | refine ⟨_, t0, ?_⟩ | refine And.intro (by kernel_rfl) ?_ | refine And.intro (by decide) ?_
    rfl
  rw [if_pos hr] at c1
  rw [hr, Bool.true_and]
  obtain ⟨m1, m2, m3⟩ := rmay_iff.1 hr
  have b := may_iff.1 m2
  have c3 := dtop_snd' (may_few m2)
  by_cases h0 : a.n = 0
  · have : Dy.top a.plain = (0, 1) := by unfold Dy.top; rw [if_pos m2, if_pos (plain_n.2 h0)]
    rw [this] at c3
    rw [show decide (a.n ≠ 0) = false by simp [h0], Bool.false_and]
    repeat (conv => whnf); first | refine br_tt ?_ | refine br_ff ?_ | refine ⟨_, c1, ?_⟩ | refine ⟨_, c3, ?_⟩ | refine And.intro (by kernel_rfl) ?_ | refine And.intro (by decide) ?_
    rfl
  have : Dy.top a.plain = (a.plain.e + nlen a.plain.n - 1, 0) := by unfold Dy.top; rw [if_pos m2, if_neg (fun z => h0 (plain_n.1 z))]
  rw [this] at c3
  rw [show decide (a.n ≠ 0) = true by simp [h0], Bool.true_and]
  repeat (conv => whnf); first | refine br_tt ?_ | refine br_ff ?_ | refine ⟨_, c1, ?_⟩ | refine ⟨_, c3, ?_⟩ | refine ⟨_, c4, ?_⟩ | refine And.intro (by kernel_rfl) ?_ | refine And.intro (by decide) ?_
  show AV.a (.b (decide (a.plain.e + (nlen a.plain.n : Int) - 1 < IntKind.wrap .i64 (IntKind.wrap .i64 (f.low + (f.p : Int)) - 1)))) = _
  rw [wI (x := f.low + _) (by omega) (by omega), wI (by omega) (by omega)]; rfl
theorem tiny_snd' {d : Dy} (hn : Few d.n) : Snd Try.prog 59 [.g (fmA f), .g (dA d)] (.a (.b (tiny f d))) := by
  have := tiny_snd h (neg := d.neg) (e := d.e) (few_ok hn).1 (few_ok hn).2
  rwa [nv_parts] at this
end
end Go.Proofs.Ytlaffgojgfdlnaa.A
