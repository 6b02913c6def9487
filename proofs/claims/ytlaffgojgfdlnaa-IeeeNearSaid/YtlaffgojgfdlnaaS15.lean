/- The contracts of format's Value and Put, for all bits and all numbers of at most a thousand parts. -/
import Derived.Test.YtlaffgojgfdlnaaS14
import Derived.Test.YtlaffgojgfdlnaaPx3
set_option linter.unusedVariables false
set_option linter.unusedSimpArgs false
set_option linter.constructorNameAsVariable false
set_option linter.unusedSectionVars false
set_option maxRecDepth 100000
set_option maxHeartbeats 4000000
namespace Go.Proofs.Ytlaffgojgfdlnaa.A
open Go.RowKit Go.Proofs.Ytlaffgojgfdlnaa.P Go.Proofs.YtlaffgojgfdlnaaW.PrintWords Go.Proofs.YtlaffgojgfdlnaaW.PrintMore Go.Proofs.Ytlaffgojgfdlnaa.N Sk Dy
theorem dplain_snd' {d : Dy} (h : Few d.n) : Snd Try.prog 47 [.g (dA d)] (rA (if d.may = true then (d.plain, 0) else (Dy.zero, 3))) := by
  have := dplain_snd (na := d.neg) (ea := d.e) (few_ok h).1 (few_ok h).2
  rwa [nv_parts] at this
theorem word_snd {l : List Int} (h : Ok l) (hl : l.length ≤ 100000) : Snd Try.prog 67 [.a (.v .u32 l)] (.t [.a (.i .u64 (if nv l < 18446744073709551616 then (((nv l : Nat) : Int), (0 : Int)) else (0, 6)).1), .a (iA (if nv l < 18446744073709551616 then (((nv l : Nat) : Int), (0 : Int)) else (0, 6)).2)]) := by
  obtain ⟨K, hK⟩ := word_ev h (by omega)
  refine ⟨⟨_, Try.func67, by kernel_rfl, rfl⟩, fun w Pk vs hvs => ?_⟩
  obtain ⟨v, rfl, A, c, rfl, hc, hf⟩ := args1 hvs
  refine (nat_Nat_Word.calls K A c l _ _ w (Kd.F_now hf) hc (hK K (Nat.le_refl _))).mono ?_
  rintro e w' ⟨rfl, hb⟩
  exact ⟨_, rfl, ⟨_, rfl, rfl, rfl, trivial⟩, hb⟩
section
variable {f : Fm} (h : f.ok)
include h
theorem fval_snd {b : Nat} (hb : b < 2 ^ 64) : Snd Try.prog 17 [.g (fmA f), .a (uA b)] (rA (f.val b)) := by
  have hB := Fm.bounds h
  have c1 := fcl_snd h hb
  have c2 := fmay_snd h hb
  have c3 := ffr_snd h hb
  have c4 := low_snd h
  have c5 := fex_snd h hb
  have c6 := fneg_snd h hb
  have z : (0 : Int) ≤ IntKind.wrap .i64 ((f.p : Int) - 1) := by rw [wI_p1 h]; omega
  have l1 : f.mg b < 2 ^ 64 := Nat.lt_of_lt_of_le (Fm.mg_lt h) (Nat.pow_le_pow_right (by omega) (by omega))
  have c7 := of_snd (n := ((f.mg b : Nat) : Int)) (by omega) (by omega)
  rw [Int.toNat_natCast] at c7
  have fw : Few (f.raw b).n := by show nlen (f.mg b) ≤ 31000; have := nlen_le_iff.2 (Fm.mg_lt h (b := b)); omega
  have c8 := dplain_snd' (d := f.raw b) fw
  rw [if_pos (Fm.raw_may h b)] at c8
  refine snd_of ttOk mixed Try.func17 Try.ntmps17 rfl (by kernel_rfl) rfl ?_
  unfold Fm.val
  by_cases h1 : b < 2 ^ (f.p + f.w)
  case neg =>
    rw [if_pos (by omega), rA_zero]
    rw [decide_eq_false h1] at c2
    repeat (conv => whnf); first | refine br_tt ?_ | refine br_ff ?_ | refine ⟨_, c1, ?_⟩ | refine ⟨_, c2, ?_⟩ | refine And.intro (by kernel_rfl) ?_ | refine And.intro (by decide) ?_
    rfl
  rw [if_neg (by omega)]
  rw [decide_eq_true h1] at c2
  by_cases h2 : 2 < f.cl b
  · rw [if_pos h2, rA_zero]
    have z2 : decide (((f.cl b : Nat) : Int) > 2) = true := decide_eq_true (by omega)
    repeat (conv => whnf); first | refine br_tt ?_ | refine br_ff ?_ | refine ⟨_, c1, ?_⟩ | refine ⟨_, c2, ?_⟩ | refine br_t z2 ?_ | refine And.intro (by kernel_rfl) ?_ | refine And.intro (by decide) ?_
    rfl
  rw [if_neg h2]
  have z2 : decide (((f.cl b : Nat) : Int) > 2) = false := decide_eq_false (by omega)
  have z3 := beqN (f.cl b) 2
  by_cases h3 : f.cl b = 2
  · rw [decide_eq_true h3] at z3
    have hex : ¬ f.ex b = 0 := by
      intro e; have := Fm.cl_ex.1 e; omega
    have em : f.mg b = f.fr b + 2 ^ (f.p - 1) := if_neg hex
    have ep : f.pl b = f.low + f.ex b - 1 := if_neg hex
    have hfr := Fm.fr_lt h (b := b)
    have l2 : 1 * 2 ^ (f.p - 1) < 2 ^ 64 := by omega
    have hx : IntKind.wrap .u64 (((BitVec.ofInt (IntKind.bits .u64) ((f.fr b : Nat) : Int) ||| (BitVec.ofInt (IntKind.bits .u64) (IntKind.wrap .u64 (((1 : Nat) : Int) * 2 ^ (min (IntKind.wrap .i64 ((f.p : Int) - 1)).toNat (IntKind.bits .u64)))))).toNat : Nat) : Int) = ((f.mg b : Nat) : Int) := by
      rw [wI_p1 h, shlU l2 (by omega), uN_or (by omega) l2, Nat.or_comm, or_beside hfr, em, Nat.one_mul, Nat.add_comm]
    rw [← hx] at c7
    have exl := Fm.ex_lt (f := f) (b := b)
    have he : IntKind.wrap .i64 (f.low + IntKind.wrap .i64 (IntKind.wrap .i64 ((f.ex b : Nat) : Int) - 1)) = f.pl b := by
      rw [wI (x := ((f.ex b : Nat) : Int)) (by omega) (by omega), wI (x := _ - 1) (by omega) (by omega), wI (by omega) (by omega), ep]; omega
    have c8' : Snd Try.prog 47 [.g [.b (f.sn b), nA (f.mg b), iA (IntKind.wrap .i64 (f.low + IntKind.wrap .i64 (IntKind.wrap .i64 ((f.ex b : Nat) : Int) - 1)))]] (rA ((f.raw b).plain, 0)) := by rw [he]; exact c8
    repeat (conv => whnf); first | refine br_tt ?_ | refine br_ff ?_ | refine ⟨_, c1, ?_⟩ | refine ⟨_, c2, ?_⟩ | refine ⟨_, c3, ?_⟩ | refine ⟨_, c4, ?_⟩ | refine ⟨_, c5, ?_⟩ | refine ⟨_, c6, ?_⟩ | refine ⟨_, c7, ?_⟩ | refine ⟨_, c8', ?_⟩ | refine br_f z2 ?_ | refine br_t z3 ?_ | refine And.intro z ?_ | refine And.intro (by kernel_rfl) ?_ | refine And.intro (by decide) ?_
    rfl
  · rw [decide_eq_false h3] at z3
    have hex : f.ex b = 0 := Fm.cl_ex.2 (by omega)
    have em : f.mg b = f.fr b := if_pos hex
    have ep : f.pl b = f.low := if_pos hex
    rw [em] at c7
    have c8' : Snd Try.prog 47 [.g [.b (f.sn b), nA (f.fr b), iA f.low]] (rA ((f.raw b).plain, 0)) := by rw [← em, ← ep]; exact c8
    repeat (conv => whnf); first | refine br_tt ?_ | refine br_ff ?_ | refine ⟨_, c1, ?_⟩ | refine ⟨_, c2, ?_⟩ | refine ⟨_, c3, ?_⟩ | refine ⟨_, c4, ?_⟩ | refine ⟨_, c5, ?_⟩ | refine ⟨_, c6, ?_⟩ | refine ⟨_, c7, ?_⟩ | refine ⟨_, c8', ?_⟩ | refine br_f z2 ?_ | refine br_f z3 ?_ | refine And.intro z ?_ | refine And.intro (by kernel_rfl) ?_ | refine And.intro (by decide) ?_
    rfl
theorem bld_lt64 {neg : Bool} {e x : Nat} (he : e < 2 ^ f.w) (hx : x < 2 ^ (f.p - 1)) : f.bld neg e x < 2 ^ 64 := Nat.lt_of_lt_of_le (Fm.bld_lt h he hx) (Nat.pow_le_pow_right (by omega) (Fm.bounds h).2.2.2.2.1)
theorem bld_or0 (neg : Bool) {e : Nat} (he : e < 2 ^ f.w) : f.bld neg 0 0 ||| e * 2 ^ (f.p - 1) = f.bld neg e 0 := by
  have hB := Fm.bounds h
  have l : e * 2 ^ (f.p - 1) < 2 ^ (f.p + f.w - 1) := by
    rw [show f.p + f.w - 1 = f.w + (f.p - 1) by omega, Nat.pow_add]
    exact Nat.mul_lt_mul_of_pos_right he (Nat.two_pow_pos _)
  rw [bld_zz h]
  cases neg
  · rw [if_neg (by simp), Nat.zero_or]; unfold Fm.bld; simp
  · rw [if_pos rfl]
    have := or_beside (a := 1) l
    rw [Nat.one_mul] at this
    rw [this]; unfold Fm.bld; rw [if_pos rfl]; omega
theorem bld_or (neg : Bool) {e x : Nat} (he : e < 2 ^ f.w) (hx : x < 2 ^ (f.p - 1)) : f.bld neg e 0 ||| x = f.bld neg e x := by
  have hB := Fm.bounds h
  have e1 : f.bld neg e 0 = (if neg = true then e + 2 ^ f.w else e) * 2 ^ (f.p - 1) := by
    unfold Fm.bld
    cases neg
    · simp
    · rw [if_pos rfl, if_pos rfl, Nat.add_mul, ← Nat.pow_add, show f.w + (f.p - 1) = f.p + f.w - 1 by omega]; rfl
  rw [e1, or_beside hx, ← e1]; unfold Fm.bld; omega
theorem fput_snd {neg : Bool} {l : List Int} {e : Int} (ho : Ok l) (hl : l.length ≤ 1000) : Snd Try.prog 30 [.g (fmA f), .g (dL neg l e)] (.t [.a (uA (f.put ⟨neg, nv l, e⟩).1), .a (iA (f.put ⟨neg, nv l, e⟩).2)]) := by
  have hB := Fm.bounds h
  have c1 := dplain_snd (na := neg) (ea := e) ho hl
  refine snd_of ttOk mixed Try.func30 Try.ntmps30 rfl (by kernel_rfl) rfl ?_
  obtain ⟨a, ea⟩ : ∃ a, a = (⟨neg, nv l, e⟩ : Dy) := ⟨_, rfl⟩
  rw [← ea] at c1
  rw [← ea]
  unfold Fm.put
  by_cases ma : a.may = true
  case neg =>
    rw [if_neg ma]
    rw [if_neg ma, rA_zero] at c1
    repeat (conv => whnf); first | refine br_tt ?_ | refine br_ff ?_ | refine ⟨_, c1, ?_⟩ | refine And.intro (by kernel_rfl) ?_ | refine And.intro (by decide) ?_
    rfl
  have bm := may_iff.1 ma
  have bp := plain_bounds ma
  rw [if_pos ma]
  rw [if_pos ma] at c1
  have c2 := len_snd' (n := a.plain.n) (by show nlen _ ≤ 31000; omega)
  have z0 := beq_len0 (n := a.plain.n)
  by_cases h0 : a.n = 0
  · rw [if_pos h0]
    rw [decide_eq_true (plain_n.2 h0)] at z0
    repeat (conv => whnf); first | refine br_tt ?_ | refine br_ff ?_ | refine ⟨_, c1, ?_⟩ | refine ⟨_, c2, ?_⟩ | refine br_t z0 ?_ | refine And.intro (by kernel_rfl) ?_ | refine And.intro (by decide) ?_
    rfl
  have hn0 : a.plain.n ≠ 0 := fun k => h0 (plain_n.1 k)
  have hnl : 0 < nlen a.plain.n := by have := nlen_eq_zero (n := a.plain.n); omega
  rw [if_neg h0]
  rw [decide_eq_false hn0] at z0
  have c3 := low_snd h
  have c4 := mask_snd (k := f.w) (by omega)
  obtain ⟨q, eq⟩ : ∃ q, q = a.plain := ⟨_, rfl⟩
  rw [← eq] at c1 c2 z0 bp hn0 hnl ⊢
  have qneg : q.neg = a.neg := by rw [eq]; exact plain_neg h0
  obtain ⟨E, hE⟩ : ∃ E, E = f.fe q := ⟨_, rfl⟩
  rw [← hE]
  have hX : IntKind.wrap .i64 (IntKind.wrap .i64 (IntKind.wrap .i64 (IntKind.wrap .i64 (q.e + (nlen q.n : Int)) - 1) - (f.p : Int)) + 1) = q.e + nlen q.n - f.p := by
    rw [wI (x := q.e + _) (by omega) (by omega), wI (x := _ - 1) (by omega) (by omega), wI (x := _ - (f.p : Int)) (by omega) (by omega), wI (by omega) (by omega)]; omega
  generalize hXX : IntKind.wrap .i64 (IntKind.wrap .i64 (IntKind.wrap .i64 (IntKind.wrap .i64 (q.e + (nlen q.n : Int)) - 1) - (f.p : Int)) + 1) = X at hX
  have hE1 : E = max 1 (X - f.low + 1) := by rw [hE, hX]; unfold Fm.fe; congr 1; omega
  have hAT : (if f.low > X then f.low else X) = f.low + E - 1 := by split <;> omega
  have hATb : -2000 ≤ f.low + E - 1 ∧ f.low + E - 1 ≤ 20000 := by omega
  have hF : ∃ F : Int, (decide (X ≥ f.low) = true ∧ IntKind.wrap .i64 (IntKind.wrap .i64 (f.low + E - 1 - f.low) + 1) = F ∧ F = E ∧ X = f.low + E - 1) ∨ (decide (X ≥ f.low) = false ∧ IntKind.wrap .i64 (f.low + E - 1 - f.low) = F ∧ F = 0 ∧ E = 1 ∧ X < f.low) := by
    by_cases hx : X ≥ f.low
    · refine ⟨E, .inl ⟨decide_eq_true hx, ?_, rfl, by omega⟩⟩
      rw [wI (x := _ - f.low) (by omega) (by omega), wI (by omega) (by omega)]; omega
    · refine ⟨0, .inr ⟨decide_eq_false hx, ?_, rfl, by omega, by omega⟩⟩
      rw [wI (by omega) (by omega)]; omega
  have hw2 : (1 : Int) < ((2 ^ f.w - 1 : Nat) : Int) := by omega
  have hwm : IntKind.wrap .i64 ((2 ^ f.w - 1 : Nat) : Int) = ((2 ^ f.w - 1 : Nat) : Int) := wI (by omega) (by omega)
  rw [← hAT] at hF
  obtain ⟨F, hF⟩ := hF
  have hFE : F ≥ ((2 ^ f.w - 1 : Nat) : Int) ↔ E ≥ ((2 ^ f.w - 1 : Nat) : Int) := by rcases hF with ⟨_, _, e, _⟩ | ⟨_, _, e, e2, _⟩ <;> rw [e] <;> omega
  have t1 : decide (q.e < (if f.low > X then f.low else X)) = decide (q.e < f.low + E - 1) := by rw [hAT]
  rcases hF with ⟨zA, sF, eF, eX⟩ | ⟨zA, sF, eF, eE, eX⟩
  · have t2 : decide (IntKind.wrap .i64 (IntKind.wrap .i64 ((if f.low > X then f.low else X) - f.low) + 1) ≥ IntKind.wrap .i64 ((2 ^ f.w - 1 : Nat) : Int)) = decide (E ≥ ((2 ^ f.w - 1 : Nat) : Int)) := by rw [sF, hwm]; exact decide_eq_decide.2 hFE
    rw [← hXX] at zA t1 t2
    by_cases h1 : q.e < f.low + E - 1
    · rw [if_pos (.inr h1)]
      rw [decide_eq_true h1] at t1
      repeat (conv => whnf); first | refine br_tt ?_ | refine br_ff ?_ | refine ⟨_, c1, ?_⟩ | refine ⟨_, c2, ?_⟩ | refine ⟨_, c3, ?_⟩ | refine ⟨_, c4, ?_⟩ | refine br_f z0 ?_ | refine br_t zA ?_ | refine br_t t1 ?_ | refine And.intro (by kernel_rfl) ?_ | refine And.intro (by decide) ?_
      rfl
    rw [decide_eq_false h1] at t1
    by_cases h2 : E ≥ ((2 ^ f.w - 1 : Nat) : Int)
    · rw [if_pos (.inl (by omega))]
      rw [decide_eq_true h2] at t2
      repeat (conv => whnf); first | refine br_tt ?_ | refine br_ff ?_ | refine ⟨_, c1, ?_⟩ | refine ⟨_, c2, ?_⟩ | refine ⟨_, c3, ?_⟩ | refine ⟨_, c4, ?_⟩ | refine br_f z0 ?_ | refine br_t zA ?_ | refine br_f t1 ?_ | refine br_t t2 ?_ | refine And.intro (by kernel_rfl) ?_ | refine And.intro (by decide) ?_
      rfl
    rw [decide_eq_false h2] at t2
    rw [if_neg (by omega)]
    obtain ⟨K, hK⟩ : ∃ K, K = (q.e - (f.low + E - 1)).toNat := ⟨_, rfl⟩
    rw [← hK]
    have hnm : nlen (q.n * 2 ^ K) = nlen q.n + K := nlen_mul_pow hn0 K
    obtain ⟨m, hm⟩ : ∃ m, m = q.n * 2 ^ K := ⟨_, rfl⟩
    have c5 := left_snd (few_ok (n := q.n) (by show nlen _ ≤ 31000; omega)).1 (by have := (few_ok (n := q.n) (by show nlen _ ≤ 31000; omega)).2; omega) ((K : Nat) : Int) (by omega) (by omega)
    rw [nv_parts] at c5
    have hl : leftR q.n ((K : Nat) : Int) = (parts m, 0) := by unfold leftR; rw [if_neg (by omega), if_neg (by omega), Int.toNat_natCast, ← hm]
    rw [hl] at c5
    rw [← hm] at hnm ⊢
    have hmp : nlen m ≤ f.p := by omega
    have hm64 : m < 18446744073709551616 := by have := nlen_le_iff.1 hmp; have := Nat.pow_le_pow_right (show 0 < 2 by omega) (show f.p ≤ 64 by omega); omega
    have c6 := word_snd (Ok_parts m) (by have := (few_ok (n := m) (by show nlen _ ≤ 31000; omega)).2; omega)
    rw [nv_parts, if_pos hm64] at c6
    have c7 := fnought_snd h q.neg
    have c8 := ffr_snd h (b := m) hm64
    have kA : IntKind.wrap .i64 (q.e - (if f.low > X then f.low else X)) = ((K : Nat) : Int) := by rw [hAT, wI (by omega) (by omega)]; omega
    rw [← kA] at c5
    rw [← hXX] at c5
    have z : (0 : Int) ≤ IntKind.wrap .i64 ((f.p : Int) - 1) := by rw [wI_p1 h]; omega
    repeat (conv => whnf); first | refine br_tt ?_ | refine br_ff ?_ | refine ⟨_, c1, ?_⟩ | refine ⟨_, c2, ?_⟩ | refine ⟨_, c3, ?_⟩ | refine ⟨_, c4, ?_⟩ | refine ⟨_, c5, ?_⟩ | refine ⟨_, c6, ?_⟩ | refine ⟨_, c7, ?_⟩ | refine ⟨_, c8, ?_⟩ | refine br_f z0 ?_ | refine br_t zA ?_ | refine br_f t1 ?_ | refine br_f t2 ?_ | refine And.intro z ?_ | refine And.intro (by kernel_rfl) ?_ | refine And.intro (by decide) ?_
    rw [← hXX] at sF
    show AV.t [.a (.i .u64 (IntKind.wrap .u64 (((BitVec.ofInt (IntKind.bits .u64) (IntKind.wrap .u64 (((BitVec.ofInt (IntKind.bits .u64) ((f.bld q.neg 0 0 : Nat) : Int) ||| BitVec.ofInt (IntKind.bits .u64) (IntKind.wrap .u64 (IntKind.wrap .u64 (IntKind.wrap .i64 (IntKind.wrap .i64 ((if f.low > (IntKind.wrap .i64 (IntKind.wrap .i64 (IntKind.wrap .i64 (IntKind.wrap .i64 (q.e + (nlen q.n : Int)) - 1) - (f.p : Int)) + 1)) then f.low else (IntKind.wrap .i64 (IntKind.wrap .i64 (IntKind.wrap .i64 (IntKind.wrap .i64 (q.e + (nlen q.n : Int)) - 1) - (f.p : Int)) + 1))) - f.low) + 1)) * 2 ^ (min (IntKind.wrap .i64 ((f.p : Int) - 1)).toNat (IntKind.bits .u64))))).toNat : Nat) : Int)) ||| BitVec.ofInt (IntKind.bits .u64) ((f.fr m : Nat) : Int)).toNat : Nat) : Int))), .a (iA 0)] = _
    rw [sF, wI_p1 h, show IntKind.wrap .u64 F = ((E.toNat : Nat) : Int) by rw [wU (by omega) (by omega)]; omega]
    have hm2 : ¬ m < 2 ^ (f.p - 1) := fun k => by have := nlen_le_iff.2 k; omega
    rw [if_neg hm2]
    have hel : E.toNat < 2 ^ f.w := by omega
    have hfl := Fm.fr_lt h (b := m)
    have hsh := bld_lt64 h (neg := q.neg) hel (show 0 < 2 ^ (f.p - 1) from Nat.two_pow_pos _)
    rw [shlU (Nat.lt_of_le_of_lt (show E.toNat * 2 ^ (f.p - 1) ≤ f.bld q.neg (E.toNat) 0 by unfold Fm.bld; omega) hsh) (by omega), uN_or (nought_lt h _) (Nat.lt_of_le_of_lt (show E.toNat * 2 ^ (f.p - 1) ≤ f.bld q.neg (E.toNat) 0 by unfold Fm.bld; omega) hsh), bld_or0 h q.neg hel, uN_or hsh (Nat.lt_of_lt_of_le hfl (Nat.pow_le_pow_right (by omega) (by omega))), bld_or h q.neg hel hfl, qneg]
    rfl
  · have t2 : decide (IntKind.wrap .i64 ((if f.low > X then f.low else X) - f.low) ≥ IntKind.wrap .i64 ((2 ^ f.w - 1 : Nat) : Int)) = decide (E ≥ ((2 ^ f.w - 1 : Nat) : Int)) := by rw [sF, hwm]; exact decide_eq_decide.2 hFE
    rw [← hXX] at zA t1 t2
    by_cases h1 : q.e < f.low + E - 1
    · rw [if_pos (.inr h1)]
      rw [decide_eq_true h1] at t1
      repeat (conv => whnf); first | refine br_tt ?_ | refine br_ff ?_ | refine ⟨_, c1, ?_⟩ | refine ⟨_, c2, ?_⟩ | refine ⟨_, c3, ?_⟩ | refine ⟨_, c4, ?_⟩ | refine br_f z0 ?_ | refine br_f zA ?_ | refine br_t t1 ?_ | refine And.intro (by kernel_rfl) ?_ | refine And.intro (by decide) ?_
      rfl
    rw [decide_eq_false h1] at t1
    by_cases h2 : E ≥ ((2 ^ f.w - 1 : Nat) : Int)
    · rw [if_pos (.inl (by omega))]
      rw [decide_eq_true h2] at t2
      repeat (conv => whnf); first | refine br_tt ?_ | refine br_ff ?_ | refine ⟨_, c1, ?_⟩ | refine ⟨_, c2, ?_⟩ | refine ⟨_, c3, ?_⟩ | refine ⟨_, c4, ?_⟩ | refine br_f z0 ?_ | refine br_f zA ?_ | refine br_f t1 ?_ | refine br_t t2 ?_ | refine And.intro (by kernel_rfl) ?_ | refine And.intro (by decide) ?_
      rfl
    rw [decide_eq_false h2] at t2
    rw [if_neg (by omega)]
    obtain ⟨K, hK⟩ : ∃ K, K = (q.e - (f.low + E - 1)).toNat := ⟨_, rfl⟩
    rw [← hK]
    have hnm : nlen (q.n * 2 ^ K) = nlen q.n + K := nlen_mul_pow hn0 K
    obtain ⟨m, hm⟩ : ∃ m, m = q.n * 2 ^ K := ⟨_, rfl⟩
    have c5 := left_snd (few_ok (n := q.n) (by show nlen _ ≤ 31000; omega)).1 (by have := (few_ok (n := q.n) (by show nlen _ ≤ 31000; omega)).2; omega) ((K : Nat) : Int) (by omega) (by omega)
    rw [nv_parts] at c5
    have hl : leftR q.n ((K : Nat) : Int) = (parts m, 0) := by unfold leftR; rw [if_neg (by omega), if_neg (by omega), Int.toNat_natCast, ← hm]
    rw [hl] at c5
    rw [← hm] at hnm ⊢
    have hmp : nlen m ≤ f.p := by omega
    have hm64 : m < 18446744073709551616 := by have := nlen_le_iff.1 hmp; have := Nat.pow_le_pow_right (show 0 < 2 by omega) (show f.p ≤ 64 by omega); omega
    have c6 := word_snd (Ok_parts m) (by have := (few_ok (n := m) (by show nlen _ ≤ 31000; omega)).2; omega)
    rw [nv_parts, if_pos hm64] at c6
    have c7 := fnought_snd h q.neg
    have c8 := ffr_snd h (b := m) hm64
    have kA : IntKind.wrap .i64 (q.e - (if f.low > X then f.low else X)) = ((K : Nat) : Int) := by rw [hAT, wI (by omega) (by omega)]; omega
    rw [← kA] at c5
    rw [← hXX] at c5
    have z : (0 : Int) ≤ IntKind.wrap .i64 ((f.p : Int) - 1) := by rw [wI_p1 h]; omega
    repeat (conv => whnf); first | refine br_tt ?_ | refine br_ff ?_ | refine ⟨_, c1, ?_⟩ | refine ⟨_, c2, ?_⟩ | refine ⟨_, c3, ?_⟩ | refine ⟨_, c4, ?_⟩ | refine ⟨_, c5, ?_⟩ | refine ⟨_, c6, ?_⟩ | refine ⟨_, c7, ?_⟩ | refine ⟨_, c8, ?_⟩ | refine br_f z0 ?_ | refine br_f zA ?_ | refine br_f t1 ?_ | refine br_f t2 ?_ | refine And.intro z ?_ | refine And.intro (by kernel_rfl) ?_ | refine And.intro (by decide) ?_
    rw [← hXX] at sF
    show AV.t [.a (.i .u64 (IntKind.wrap .u64 (((BitVec.ofInt (IntKind.bits .u64) (IntKind.wrap .u64 (((BitVec.ofInt (IntKind.bits .u64) ((f.bld q.neg 0 0 : Nat) : Int) ||| BitVec.ofInt (IntKind.bits .u64) (IntKind.wrap .u64 (IntKind.wrap .u64 (IntKind.wrap .i64 ((if f.low > (IntKind.wrap .i64 (IntKind.wrap .i64 (IntKind.wrap .i64 (IntKind.wrap .i64 (q.e + (nlen q.n : Int)) - 1) - (f.p : Int)) + 1)) then f.low else (IntKind.wrap .i64 (IntKind.wrap .i64 (IntKind.wrap .i64 (IntKind.wrap .i64 (q.e + (nlen q.n : Int)) - 1) - (f.p : Int)) + 1))) - f.low)) * 2 ^ (min (IntKind.wrap .i64 ((f.p : Int) - 1)).toNat (IntKind.bits .u64))))).toNat : Nat) : Int)) ||| BitVec.ofInt (IntKind.bits .u64) ((f.fr m : Nat) : Int)).toNat : Nat) : Int))), .a (iA 0)] = _
    rw [sF, wI_p1 h, show IntKind.wrap .u64 F = ((0 : Nat) : Int) by rw [wU (by omega) (by omega)]; omega]
    have hm2 : m < 2 ^ (f.p - 1) := nlen_le_iff.1 (by omega)
    rw [if_pos hm2]
    have hel : 0 < 2 ^ f.w := by omega
    have hfl := Fm.fr_lt h (b := m)
    have hsh := bld_lt64 h (neg := q.neg) hel (show 0 < 2 ^ (f.p - 1) from Nat.two_pow_pos _)
    rw [shlU (Nat.lt_of_le_of_lt (show 0 * 2 ^ (f.p - 1) ≤ f.bld q.neg (0) 0 by unfold Fm.bld; omega) hsh) (by omega), uN_or (nought_lt h _) (Nat.lt_of_le_of_lt (show 0 * 2 ^ (f.p - 1) ≤ f.bld q.neg (0) 0 by unfold Fm.bld; omega) hsh), bld_or0 h q.neg hel, uN_or hsh (Nat.lt_of_lt_of_le hfl (Nat.pow_le_pow_right (by omega) (by omega))), bld_or h q.neg hel hfl, qneg]
    rfl
end
end Go.Proofs.Ytlaffgojgfdlnaa.A
