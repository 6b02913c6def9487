/- The contracts of reference 3's Value and Put and of what it tells of bits, for all inputs of the three formats. -/
import Derived.Test.YtlaffgojgfdlnaaGreatS16
import Derived.Test.YtlaffgojgfdlnaaGreatPx7
set_option linter.unusedVariables false
set_option linter.unusedSimpArgs false
set_option linter.constructorNameAsVariable false
set_option linter.unusedSectionVars false
set_option maxRecDepth 100000
set_option maxHeartbeats 4000000
namespace Go.Proofs.YtlaffgojgfdlnaaGreat.A
open Go.RowKit Go.Proofs.YtlaffgojgfdlnaaGreat.P Go.Proofs.YtlaffgojgfdlnaaGreatW.PrintWords Go.Proofs.YtlaffgojgfdlnaaGreatW.PrintMore Go.Proofs.YtlaffgojgfdlnaaGreat.N Sk Dy
section
variable {f : Fm} (h : f.ok)
include h
theorem wpow1 {k : Nat} (hk : k < 64) (hk0 : 0 < k) (d : Nat) (hd : d ≤ 2) : IntKind.wrap .u64 (((2 ^ k : Nat) : Int) - (d : Int)) = ((2 ^ k - d : Nat) : Int) := by
  have h1 : 2 ^ k ≤ 2 ^ 63 := Nat.pow_le_pow_right (by omega) (by omega)
  have h2 : 2 ^ 1 ≤ 2 ^ k := Nat.pow_le_pow_right (by omega) hk0
  rw [wU (by omega) (by omega)]; omega
theorem rinf_snd (neg : Bool) : Snd Tryz.prog 39 [.g (fmA f), .a (.b neg)] (.a (uA (f.inf neg))) := by
  have hB := Fm.bounds h
  have c1 := pw_w h
  have hp : 0 < 2 ^ f.w := Nat.two_pow_pos _
  have c2 := rbld_snd h (neg := neg) (e := 2 ^ f.w - 1) (x := 0) (by omega) (Nat.two_pow_pos _)
  have w1 := wpow1 h (k := f.w) (by omega) (by omega) 1 (by omega)
  have c2' : Snd Tryz.prog 32 [.g (fmA f), .a (.b neg), .a (.i .u64 (IntKind.wrap .u64 (((2 ^ f.w : Nat) : Int) - ((1 : Nat) : Int)))), .a (uA 0)] (.a (uA (f.bld neg (2 ^ f.w - 1) 0))) := by rw [w1]; exact c2
  refine snd_of ttOk mixed Tryz.func39 Tryz.ntmps39 rfl (by kernel_rfl) rfl ?_
  repeat (conv => whnf); first | refine br_tt ?_ | refine br_ff ?_ | refine ⟨_, c1, ?_⟩ | refine ⟨_, c2', ?_⟩ | refine And.intro (by kernel_rfl) ?_ | refine And.intro (by decide) ?_
  rfl
theorem rgrt_snd (neg : Bool) : Snd Tryz.prog 87 [.g (fmA f), .a (.b neg)] (.a (uA (f.grt neg))) := by
  have hB := Fm.bounds h
  have c1 := pw_w h
  have c3 := pw_p1 h
  have hp : 0 < 2 ^ f.w := Nat.two_pow_pos _
  have hp2 : 0 < 2 ^ (f.p - 1) := Nat.two_pow_pos _
  have c2 := rbld_snd h (neg := neg) (e := 2 ^ f.w - 2) (x := 2 ^ (f.p - 1) - 1) (by omega) (by omega)
  have w1 := wpow1 h (k := f.w) (by omega) (by omega) 2 (by omega)
  have w2 := wpow1 h (k := f.p - 1) (by omega) (by omega) 1 (by omega)
  have c2' : Snd Tryz.prog 32 [.g (fmA f), .a (.b neg), .a (.i .u64 (IntKind.wrap .u64 (((2 ^ f.w : Nat) : Int) - ((2 : Nat) : Int)))), .a (.i .u64 (IntKind.wrap .u64 (((2 ^ (f.p - 1) : Nat) : Int) - ((1 : Nat) : Int))))] (.a (uA (f.bld neg (2 ^ f.w - 2) (2 ^ (f.p - 1) - 1)))) := by rw [w1, w2]; exact c2
  refine snd_of ttOk mixed Tryz.func87 Tryz.ntmps87 rfl (by kernel_rfl) rfl ?_
  repeat (conv => whnf); first | refine br_tt ?_ | refine br_ff ?_ | refine ⟨_, c1, ?_⟩ | refine ⟨_, c2', ?_⟩ | refine ⟨_, c3, ?_⟩ | refine And.intro (by kernel_rfl) ?_ | refine And.intro (by decide) ?_
  rfl
theorem p2_lt : 2 ^ (f.p - 2) < 2 ^ (f.p - 1) := Nat.pow_lt_pow_right (by omega) (by have := Fm.bounds h; omega)
theorem rnone_snd : Snd Tryz.prog 38 [.g (fmA f)] (.a (uA f.non)) := by
  have hB := Fm.bounds h
  have c1 := pw_w h
  have c3 := pw_p2 h
  have hp : 0 < 2 ^ f.w := Nat.two_pow_pos _
  have c2 := rbld_snd h (neg := false) (e := 2 ^ f.w - 1) (x := 2 ^ (f.p - 2)) (by omega) (p2_lt h)
  have w1 := wpow1 h (k := f.w) (by omega) (by omega) 1 (by omega)
  have c2' : Snd Tryz.prog 32 [.g (fmA f), .a (.b false), .a (.i .u64 (IntKind.wrap .u64 (((2 ^ f.w : Nat) : Int) - ((1 : Nat) : Int)))), .a (uA (2 ^ (f.p - 2)))] (.a (uA (f.bld false (2 ^ f.w - 1) (2 ^ (f.p - 2))))) := by rw [w1]; exact c2
  refine snd_of ttOk mixed Tryz.func38 Tryz.ntmps38 rfl (by kernel_rfl) rfl ?_
  repeat (conv => whnf); first | refine br_tt ?_ | refine br_ff ?_ | refine ⟨_, c1, ?_⟩ | refine ⟨_, c2', ?_⟩ | refine ⟨_, c3, ?_⟩ | refine And.intro (by kernel_rfl) ?_ | refine And.intro (by decide) ?_
  rfl
theorem rqui_snd {b : Nat} (hb : b < 2 ^ 64) : Snd Tryz.prog 74 [.g (fmA f), .a (uA b)] (.a (uA (f.qui b))) := by
  have hB := Fm.bounds h
  have c1 := rparts_snd3 h hb
  have c3 := pw_p2 h
  have hfr := Fm.fr_lt h (b := b)
  have hp2 := p2_lt h
  have hpp : 2 ^ (f.p - 1) = 2 * 2 ^ (f.p - 2) := by rw [← Nat.pow_succ']; congr 1; omega
  have hp64 : 2 ^ (f.p - 1) ≤ 2 ^ 53 := Nat.pow_le_pow_right (by omega) (by omega)
  have z : decide (((f.fr b : Nat) : Int) < ((2 ^ (f.p - 2) : Nat) : Int)) = decide (f.fr b < 2 ^ (f.p - 2)) := decide_eq_decide.2 (by omega)
  refine snd_of ttOk mixed Tryz.func74 Tryz.ntmps74 rfl (by kernel_rfl) rfl ?_
  unfold Fm.qui
  by_cases h1 : f.fr b < 2 ^ (f.p - 2)
  · rw [if_pos h1]
    rw [decide_eq_true h1] at z
    have c2 := rbld_snd h (neg := f.sn b) (e := f.ex b) (x := f.fr b + 2 ^ (f.p - 2)) Fm.ex_lt (by omega)
    have w1 : IntKind.wrap .u64 (((f.fr b : Nat) : Int) + ((2 ^ (f.p - 2) : Nat) : Int)) = ((f.fr b + 2 ^ (f.p - 2) : Nat) : Int) := by rw [wU (by omega) (by omega)]; omega
    have c2' : Snd Tryz.prog 32 [.g (fmA f), .a (.b (((sb f b : Nat) : Int) == 1)), .a (uA (f.ex b)), .a (.i .u64 (IntKind.wrap .u64 (((f.fr b : Nat) : Int) + ((2 ^ (f.p - 2) : Nat) : Int))))] (.a (uA (f.bld (f.sn b) (f.ex b) (f.fr b + 2 ^ (f.p - 2))))) := by rw [sb_eq h, w1]; exact c2
    repeat (conv => whnf); first | refine br_tt ?_ | refine br_ff ?_ | refine ⟨_, c1, ?_⟩ | refine ⟨_, c3, ?_⟩ | refine ⟨_, c2', ?_⟩ | refine br_t z ?_ | refine And.intro (by kernel_rfl) ?_ | refine And.intro (by decide) ?_
    rfl
  · rw [if_neg h1]
    rw [decide_eq_false h1] at z
    have c2 := rbld_snd h (neg := f.sn b) (e := f.ex b) (x := f.fr b) Fm.ex_lt (by omega)
    have c2' : Snd Tryz.prog 32 [.g (fmA f), .a (.b (((sb f b : Nat) : Int) == 1)), .a (uA (f.ex b)), .a (uA (f.fr b))] (.a (uA (f.bld (f.sn b) (f.ex b) (f.fr b)))) := by rw [sb_eq h]; exact c2
    repeat (conv => whnf); first | refine br_tt ?_ | refine br_ff ?_ | refine ⟨_, c1, ?_⟩ | refine ⟨_, c3, ?_⟩ | refine ⟨_, c2', ?_⟩ | refine br_f z ?_ | refine And.intro (by kernel_rfl) ?_ | refine And.intro (by decide) ?_
    rfl
theorem rval_snd {b : Nat} (hb : b < 2 ^ 64) : Snd Tryz.prog 40 [.g (fmA f), .a (uA b)] (sA (f.val b)) := by
  have hB := Fm.bounds h
  have c1 := rparts_snd3 h hb
  have c2 := rcl_snd h hb
  have c3 := pw_p1 h
  have c4 := rlow_snd h
  have l1 : f.mg b < 2 ^ 53 := Nat.lt_of_lt_of_le (Fm.mg_lt h) (Nat.pow_le_pow_right (by omega) (by omega))
  have c5 := rword_snd (n := ((f.mg b : Nat) : Int)) (by omega) (by omega)
  rw [Int.toNat_natCast] at c5
  have hpl := Fm.pl_b h (b := b)
  have c6 := rplain_snd (d := f.raw b) (by show nlen (f.mg b) ≤ 1000000; have := nlen_le_iff.2 l1; omega) (by show -10000000 ≤ f.pl b ∧ f.pl b ≤ 10000000; omega)
  refine snd_of ttOk mixed Tryz.func40 Tryz.ntmps40 rfl (by kernel_rfl) rfl ?_
  unfold Fm.val
  by_cases h1 : 2 ^ (f.p + f.w) ≤ b
  · rw [if_pos h1, sA_zero]
    rw [decide_eq_true h1] at c1
    repeat (conv => whnf); first | refine br_tt ?_ | refine br_ff ?_ | refine ⟨_, c1, ?_⟩ | refine And.intro (by kernel_rfl) ?_ | refine And.intro (by decide) ?_
    rfl
  rw [if_neg h1]
  rw [decide_eq_false h1] at c1
  by_cases h2 : 2 < f.cl b
  · rw [if_pos h2, sA_zero]
    have z2 : decide (((f.cl b : Nat) : Int) > 2) = true := decide_eq_true (by omega)
    repeat (conv => whnf); first | refine br_tt ?_ | refine br_ff ?_ | refine ⟨_, c1, ?_⟩ | refine ⟨_, c2, ?_⟩ | refine br_t z2 ?_ | refine And.intro (by kernel_rfl) ?_ | refine And.intro (by decide) ?_
    rfl
  rw [if_neg h2]
  have z2 : decide (((f.cl b : Nat) : Int) > 2) = false := decide_eq_false (by omega)
  have z3 := beqN (f.cl b) 2
  have exl := Fm.ex_lt (f := f) (b := b)
  by_cases h3 : f.cl b = 2
  · rw [decide_eq_true h3] at z3
    have hex : ¬ f.ex b = 0 := by intro e; have := Fm.cl_ex.1 e; omega
    have em : f.mg b = f.fr b + 2 ^ (f.p - 1) := if_neg hex
    have ep : f.pl b = f.low + f.ex b - 1 := if_neg hex
    have w1 : IntKind.wrap .u64 (((2 ^ (f.p - 1) : Nat) : Int) + ((f.fr b : Nat) : Int)) = ((f.mg b : Nat) : Int) := by rw [wU (by omega) (by omega)]; omega
    rw [← w1] at c5
    have he : IntKind.wrap .i64 (IntKind.wrap .i64 (f.low + IntKind.wrap .i64 ((f.ex b : Nat) : Int)) - 1) = f.pl b := by
      rw [wI (x := ((f.ex b : Nat) : Int)) (by omega) (by omega), wI (x := f.low + _) (by omega) (by omega), wI (by omega) (by omega), ep]
    have c6' : Snd Tryz.prog 75 [.g [.b (((sb f b : Nat) : Int) == 1), bA (f.mg b), iA (IntKind.wrap .i64 (IntKind.wrap .i64 (f.low + IntKind.wrap .i64 ((f.ex b : Nat) : Int)) - 1))]] (.g (eA (f.raw b).plain)) := by rw [he, sb_eq h]; exact c6
    repeat (conv => whnf); first | refine br_tt ?_ | refine br_ff ?_ | refine ⟨_, c1, ?_⟩ | refine ⟨_, c2, ?_⟩ | refine ⟨_, c3, ?_⟩ | refine ⟨_, c4, ?_⟩ | refine ⟨_, c5, ?_⟩ | refine ⟨_, c6', ?_⟩ | refine br_f z2 ?_ | refine br_t z3 ?_ | refine And.intro (by kernel_rfl) ?_ | refine And.intro (by decide) ?_
    rfl
  · rw [decide_eq_false h3] at z3
    have hex : f.ex b = 0 := Fm.cl_ex.2 (by omega)
    have em : f.mg b = f.fr b := if_pos hex
    have ep : f.pl b = f.low := if_pos hex
    rw [em] at c5
    have c6' : Snd Tryz.prog 75 [.g [.b (((sb f b : Nat) : Int) == 1), bA (f.fr b), iA f.low]] (.g (eA (f.raw b).plain)) := by rw [sb_eq h, ← em, ← ep]; exact c6
    repeat (conv => whnf); first | refine br_tt ?_ | refine br_ff ?_ | refine ⟨_, c1, ?_⟩ | refine ⟨_, c2, ?_⟩ | refine ⟨_, c3, ?_⟩ | refine ⟨_, c4, ?_⟩ | refine ⟨_, c5, ?_⟩ | refine ⟨_, c6', ?_⟩ | refine br_f z2 ?_ | refine br_f z3 ?_ | refine And.intro (by kernel_rfl) ?_ | refine And.intro (by decide) ?_
    rfl
theorem rfull_snd {n : Nat} (hn : nlen n ≤ 10000000) (hl : n < 18446744073709551616) : Snd Tryz.prog 111 [.a (bA n)] (.t [.a (uA n), .a (iA 0)]) := by
  obtain ⟨K, hK⟩ := rfull_ev n hn
  rw [if_pos hl] at hK
  refine ⟨⟨_, Tryz.func111, by kernel_rfl, rfl⟩, fun w Pk vs hvs => ?_⟩
  obtain ⟨v, rfl, A, c, rfl, hc, hf⟩ := args1 hvs
  refine (slipstickref01_Full.calls K A c _ _ _ w (Kd.F_now hf) hc (hK K (Nat.le_refl _))).mono ?_
  rintro e w' ⟨rfl, hb⟩
  exact ⟨_, rfl, ⟨_, rfl, rfl, rfl, trivial⟩, hb.below⟩
theorem rput_snd {a : Dy} : Snd Tryz.prog 92 [.g (fmA f), .g (eA a)] (.t [.a (uA (f.put a).1), .a (iA (f.put a).2)]) := by
  have hB := Fm.bounds h
  have c1 := rmay_snd a
  refine snd_of ttOk mixed Tryz.func92 Tryz.ntmps92 rfl (by kernel_rfl) rfl ?_
  unfold Fm.put
  by_cases ma : a.may = true
  case neg =>
    rw [if_neg ma]
    rw [Bool.not_eq_true] at ma
    rw [ma] at c1
    repeat (conv => whnf); first | refine br_tt ?_ | refine br_ff ?_ | refine ⟨_, c1, ?_⟩ | refine And.intro (by kernel_rfl) ?_ | refine And.intro (by decide) ?_
    rfl
  have bm := may_iff.1 ma
  have bp := plain_bounds ma
  rw [if_pos ma]
  rw [ma] at c1
  have c2 := rplain_snd (d := a) (by omega) (by omega)
  have z0 := beq_blen (n := a.plain.n)
  by_cases h0 : a.n = 0
  · rw [if_pos h0]
    rw [decide_eq_true (plain_n.2 h0)] at z0
    repeat (conv => whnf); first | refine br_tt ?_ | refine br_ff ?_ | refine ⟨_, c1, ?_⟩ | refine ⟨_, c2, ?_⟩ | refine br_t z0 ?_ | refine And.intro (by kernel_rfl) ?_ | refine And.intro (by decide) ?_
    rfl
  have hn0 : a.plain.n ≠ 0 := fun k => h0 (plain_n.1 k)
  have hnl : 0 < nlen a.plain.n := by have := nlen_eq_zero (n := a.plain.n); omega
  rw [if_neg h0]
  rw [decide_eq_false hn0] at z0
  have c3 := rlow_snd h
  have c4 := pw_w h
  have c5 := pw_p1 h
  obtain ⟨q, eq⟩ : ∃ q, q = a.plain := ⟨_, rfl⟩
  rw [← eq] at c2 z0 bp hn0 hnl ⊢
  have qneg : q.neg = a.neg := by rw [eq]; exact plain_neg h0
  obtain ⟨E, hE⟩ : ∃ E, E = f.fe q := ⟨_, rfl⟩
  rw [← hE]
  have hpw : ((2 ^ f.w : Nat) : Int) ≤ 2048 := by have := Nat.pow_le_pow_right (show 0 < 2 by omega) (show f.w ≤ 11 by omega); omega
  have hT : IntKind.wrap .i64 (IntKind.wrap .i64 (q.e + ((bts q.n).length : Int)) - 1) = q.e + nlen q.n - 1 := by
    show IntKind.wrap .i64 (IntKind.wrap .i64 (q.e + ((nlen q.n : Nat) : Int)) - 1) = q.e + nlen q.n - 1
    rw [wI (x := q.e + _) (by omega) (by omega), wI (by omega) (by omega)]
  have hL : IntKind.wrap .i64 (IntKind.wrap .i64 (f.low + (f.p : Int)) - 1) = f.low + f.p - 1 := by rw [wI (x := f.low + _) (by omega) (by omega), wI (by omega) (by omega)]
  have hfull : IntKind.wrap .i64 (IntKind.wrap .i64 ((2 ^ f.w : Nat) : Int) - 1) = ((2 ^ f.w : Nat) : Int) - 1 := by rw [wI (x := ((2 ^ f.w : Nat) : Int)) (by omega) (by omega), wI (by omega) (by omega)]
  have key : ∃ e : Int, ((decide (IntKind.wrap .i64 (IntKind.wrap .i64 (q.e + ((bts q.n).length : Int)) - 1) > IntKind.wrap .i64 (IntKind.wrap .i64 (f.low + (f.p : Int)) - 1)) = true ∧ IntKind.wrap .i64 (IntKind.wrap .i64 (IntKind.wrap .i64 (IntKind.wrap .i64 (q.e + ((bts q.n).length : Int)) - 1) - IntKind.wrap .i64 (IntKind.wrap .i64 (f.low + (f.p : Int)) - 1)) + 1) = e) ∨
      (decide (IntKind.wrap .i64 (IntKind.wrap .i64 (q.e + ((bts q.n).length : Int)) - 1) > IntKind.wrap .i64 (IntKind.wrap .i64 (f.low + (f.p : Int)) - 1)) = false ∧ 1 = e)) ∧ e = E := by
    refine ⟨E, ?_, rfl⟩
    have hE1 : E = max 1 (q.e + nlen q.n - f.low - f.p + 1) := hE
    rw [hT, hL]
    by_cases hx : q.e + nlen q.n - 1 > f.low + f.p - 1
    · left
      refine ⟨decide_eq_true hx, ?_⟩
      rw [wI (x := _ - _) (by omega) (by omega), wI (by omega) (by omega)]; omega
    · right
      exact ⟨decide_eq_false hx, by omega⟩
  obtain ⟨e, key, he⟩ := key
  have hE1 : E = max 1 (q.e + nlen q.n - f.low - f.p + 1) := hE
  have hEb : 1 ≤ E ∧ E ≤ 20000 := by omega
  have t2 : decide (e ≥ IntKind.wrap .i64 (IntKind.wrap .i64 ((2 ^ f.w : Nat) : Int) - 1)) = decide (((2 ^ f.w : Nat) : Int) - 1 ≤ E) := by rw [hfull, he]
  have hat : IntKind.wrap .i64 (IntKind.wrap .i64 (f.low + e) - 1) = f.low + E - 1 := by rw [he, wI (x := f.low + _) (by omega) (by omega), wI (by omega) (by omega)]
  have t1 : decide (q.e < IntKind.wrap .i64 (IntKind.wrap .i64 (f.low + e) - 1)) = decide (q.e < f.low + E - 1) := by rw [hat]
  rcases key with ⟨zA, sF⟩ | ⟨zA, sF⟩
  · rw [← sF] at t1 t2
    by_cases h2 : ((2 ^ f.w : Nat) : Int) - 1 ≤ E
    · rw [if_pos (.inl h2)]
      rw [decide_eq_true h2] at t2
      repeat (conv => whnf); first | refine br_tt ?_ | refine br_ff ?_ | refine ⟨_, c1, ?_⟩ | refine ⟨_, c2, ?_⟩ | refine ⟨_, c3, ?_⟩ | refine ⟨_, c4, ?_⟩ | refine br_f z0 ?_ | refine br_t zA ?_ | refine br_t t2 ?_ | refine And.intro (by kernel_rfl) ?_ | refine And.intro (by decide) ?_
      rfl
    rw [decide_eq_false h2] at t2
    by_cases h1 : q.e < f.low + E - 1
    · rw [if_pos (.inr h1)]
      rw [decide_eq_true h1] at t1
      repeat (conv => whnf); first | refine br_tt ?_ | refine br_ff ?_ | refine ⟨_, c1, ?_⟩ | refine ⟨_, c2, ?_⟩ | refine ⟨_, c3, ?_⟩ | refine ⟨_, c4, ?_⟩ | refine br_f z0 ?_ | refine br_t zA ?_ | refine br_t t1 ?_ | refine br_f t2 ?_ | refine And.intro (by kernel_rfl) ?_ | refine And.intro (by decide) ?_
      rfl
    rw [decide_eq_false h1] at t1
    rw [if_neg (by omega)]
    obtain ⟨K, hK⟩ : ∃ K, K = (q.e - (f.low + E - 1)).toNat := ⟨_, rfl⟩
    rw [← hK]
    have hnm : nlen (q.n * 2 ^ K) = nlen q.n + K := nlen_mul_pow hn0 K
    have c6 := rleft_snd (n := q.n) (k := ((K : Nat) : Int)) (by omega) (by omega) (by omega)
    rw [Int.toNat_natCast] at c6
    obtain ⟨m, hm⟩ : ∃ m, m = q.n * 2 ^ K := ⟨_, rfl⟩
    rw [← hm] at c6 hnm ⊢
    have hmp : nlen m ≤ f.p := by omega
    have hm53 : m < 2 ^ 53 := by have := nlen_le_iff.1 hmp; have := Nat.pow_le_pow_right (show 0 < 2 by omega) (show f.p ≤ 53 by omega); omega
    have c7 := rfull_snd h (n := m) (by omega) (by omega)
    have kA : IntKind.wrap .i64 (q.e - IntKind.wrap .i64 (IntKind.wrap .i64 (f.low + e) - 1)) = ((K : Nat) : Int) := by rw [hat, wI (by omega) (by omega)]; omega
    rw [← sF] at kA
    rw [← kA] at c6
    have t3 : decide (((m : Nat) : Int) < ((2 ^ (f.p - 1) : Nat) : Int)) = decide (m < 2 ^ (f.p - 1)) := decide_eq_decide.2 (by omega)
    by_cases h3 : m < 2 ^ (f.p - 1)
    · rw [if_pos h3, Nat.mod_eq_of_lt h3]
      rw [decide_eq_true h3] at t3
      have c8 := rbld_snd h (neg := q.neg) (e := 0) (x := m) (Nat.two_pow_pos _) h3
      repeat (conv => whnf); first | refine br_tt ?_ | refine br_ff ?_ | refine ⟨_, c1, ?_⟩ | refine ⟨_, c2, ?_⟩ | refine ⟨_, c3, ?_⟩ | refine ⟨_, c4, ?_⟩ | refine ⟨_, c5, ?_⟩ | refine ⟨_, c6, ?_⟩ | refine ⟨_, c7, ?_⟩ | refine ⟨_, c8, ?_⟩ | refine br_f z0 ?_ | refine br_t zA ?_ | refine br_f t1 ?_ | refine br_f t2 ?_ | refine br_t t3 ?_ | refine And.intro (by kernel_rfl) ?_ | refine And.intro (by decide) ?_
      rw [← qneg]; rfl
    · rw [if_neg h3]
      rw [decide_eq_false h3] at t3
      have hpp : 2 ^ f.p = 2 * 2 ^ (f.p - 1) := by rw [← Nat.pow_succ']; congr 1; omega
      have hmlt := nlen_le_iff.1 hmp
      have hmod : m % 2 ^ (f.p - 1) = m - 2 ^ (f.p - 1) := by rw [Nat.mod_eq_sub_mod (by omega), Nat.mod_eq_of_lt (by omega)]
      have c8 := rbld_snd h (neg := q.neg) (e := E.toNat) (x := m - 2 ^ (f.p - 1)) (by omega) (by omega)
      have wE : IntKind.wrap .u64 e = ((E.toNat : Nat) : Int) := by rw [he, wU (by omega) (by omega)]; omega
      have wM : IntKind.wrap .u64 (((m : Nat) : Int) - ((2 ^ (f.p - 1) : Nat) : Int)) = ((m - 2 ^ (f.p - 1) : Nat) : Int) := by rw [wU (by omega) (by omega)]; omega
      rw [← sF] at wE
      have c8' : Snd Tryz.prog 32 [.g (fmA f), .a (.b q.neg), .a (.i .u64 (IntKind.wrap .u64 (IntKind.wrap .i64 (IntKind.wrap .i64 (IntKind.wrap .i64 (IntKind.wrap .i64 (q.e + ((bts q.n).length : Int)) - 1) - IntKind.wrap .i64 (IntKind.wrap .i64 (f.low + (f.p : Int)) - 1)) + 1)))), .a (.i .u64 (IntKind.wrap .u64 (((m : Nat) : Int) - ((2 ^ (f.p - 1) : Nat) : Int))))] (.a (uA (f.bld q.neg E.toNat (m - 2 ^ (f.p - 1))))) := by rw [wE, wM]; exact c8
      repeat (conv => whnf); first | refine br_tt ?_ | refine br_ff ?_ | refine ⟨_, c1, ?_⟩ | refine ⟨_, c2, ?_⟩ | refine ⟨_, c3, ?_⟩ | refine ⟨_, c4, ?_⟩ | refine ⟨_, c5, ?_⟩ | refine ⟨_, c6, ?_⟩ | refine ⟨_, c7, ?_⟩ | refine ⟨_, c8', ?_⟩ | refine br_f z0 ?_ | refine br_t zA ?_ | refine br_f t1 ?_ | refine br_f t2 ?_ | refine br_f t3 ?_ | refine And.intro (by kernel_rfl) ?_ | refine And.intro (by decide) ?_
      rw [hmod, ← qneg]; rfl
  · rw [← sF] at t1 t2
    by_cases h2 : ((2 ^ f.w : Nat) : Int) - 1 ≤ E
    · rw [if_pos (.inl h2)]
      rw [decide_eq_true h2] at t2
      repeat (conv => whnf); first | refine br_tt ?_ | refine br_ff ?_ | refine ⟨_, c1, ?_⟩ | refine ⟨_, c2, ?_⟩ | refine ⟨_, c3, ?_⟩ | refine ⟨_, c4, ?_⟩ | refine br_f z0 ?_ | refine br_f zA ?_ | refine br_t t2 ?_ | refine And.intro (by kernel_rfl) ?_ | refine And.intro (by decide) ?_
      rfl
    rw [decide_eq_false h2] at t2
    by_cases h1 : q.e < f.low + E - 1
    · rw [if_pos (.inr h1)]
      rw [decide_eq_true h1] at t1
      repeat (conv => whnf); first | refine br_tt ?_ | refine br_ff ?_ | refine ⟨_, c1, ?_⟩ | refine ⟨_, c2, ?_⟩ | refine ⟨_, c3, ?_⟩ | refine ⟨_, c4, ?_⟩ | refine br_f z0 ?_ | refine br_f zA ?_ | refine br_t t1 ?_ | refine br_f t2 ?_ | refine And.intro (by kernel_rfl) ?_ | refine And.intro (by decide) ?_
      rfl
    rw [decide_eq_false h1] at t1
    rw [if_neg (by omega)]
    obtain ⟨K, hK⟩ : ∃ K, K = (q.e - (f.low + E - 1)).toNat := ⟨_, rfl⟩
    rw [← hK]
    have hnm : nlen (q.n * 2 ^ K) = nlen q.n + K := nlen_mul_pow hn0 K
    have c6 := rleft_snd (n := q.n) (k := ((K : Nat) : Int)) (by omega) (by omega) (by omega)
    rw [Int.toNat_natCast] at c6
    obtain ⟨m, hm⟩ : ∃ m, m = q.n * 2 ^ K := ⟨_, rfl⟩
    rw [← hm] at c6 hnm ⊢
    have hmp : nlen m ≤ f.p := by omega
    have hm53 : m < 2 ^ 53 := by have := nlen_le_iff.1 hmp; have := Nat.pow_le_pow_right (show 0 < 2 by omega) (show f.p ≤ 53 by omega); omega
    have c7 := rfull_snd h (n := m) (by omega) (by omega)
    have kA : IntKind.wrap .i64 (q.e - IntKind.wrap .i64 (IntKind.wrap .i64 (f.low + e) - 1)) = ((K : Nat) : Int) := by rw [hat, wI (by omega) (by omega)]; omega
    rw [← sF] at kA
    rw [← kA] at c6
    have t3 : decide (((m : Nat) : Int) < ((2 ^ (f.p - 1) : Nat) : Int)) = decide (m < 2 ^ (f.p - 1)) := decide_eq_decide.2 (by omega)
    by_cases h3 : m < 2 ^ (f.p - 1)
    · rw [if_pos h3, Nat.mod_eq_of_lt h3]
      rw [decide_eq_true h3] at t3
      have c8 := rbld_snd h (neg := q.neg) (e := 0) (x := m) (Nat.two_pow_pos _) h3
      repeat (conv => whnf); first | refine br_tt ?_ | refine br_ff ?_ | refine ⟨_, c1, ?_⟩ | refine ⟨_, c2, ?_⟩ | refine ⟨_, c3, ?_⟩ | refine ⟨_, c4, ?_⟩ | refine ⟨_, c5, ?_⟩ | refine ⟨_, c6, ?_⟩ | refine ⟨_, c7, ?_⟩ | refine ⟨_, c8, ?_⟩ | refine br_f z0 ?_ | refine br_f zA ?_ | refine br_f t1 ?_ | refine br_f t2 ?_ | refine br_t t3 ?_ | refine And.intro (by kernel_rfl) ?_ | refine And.intro (by decide) ?_
      rw [← qneg]; rfl
    · rw [if_neg h3]
      rw [decide_eq_false h3] at t3
      have hpp : 2 ^ f.p = 2 * 2 ^ (f.p - 1) := by rw [← Nat.pow_succ']; congr 1; omega
      have hmlt := nlen_le_iff.1 hmp
      have hmod : m % 2 ^ (f.p - 1) = m - 2 ^ (f.p - 1) := by rw [Nat.mod_eq_sub_mod (by omega), Nat.mod_eq_of_lt (by omega)]
      have c8 := rbld_snd h (neg := q.neg) (e := E.toNat) (x := m - 2 ^ (f.p - 1)) (by omega) (by omega)
      have wE : IntKind.wrap .u64 e = ((E.toNat : Nat) : Int) := by rw [he, wU (by omega) (by omega)]; omega
      have wM : IntKind.wrap .u64 (((m : Nat) : Int) - ((2 ^ (f.p - 1) : Nat) : Int)) = ((m - 2 ^ (f.p - 1) : Nat) : Int) := by rw [wU (by omega) (by omega)]; omega
      rw [← sF] at wE
      have c8' : Snd Tryz.prog 32 [.g (fmA f), .a (.b q.neg), .a (.i .u64 (IntKind.wrap .u64 (1))), .a (.i .u64 (IntKind.wrap .u64 (((m : Nat) : Int) - ((2 ^ (f.p - 1) : Nat) : Int))))] (.a (uA (f.bld q.neg E.toNat (m - 2 ^ (f.p - 1))))) := by rw [wE, wM]; exact c8
      repeat (conv => whnf); first | refine br_tt ?_ | refine br_ff ?_ | refine ⟨_, c1, ?_⟩ | refine ⟨_, c2, ?_⟩ | refine ⟨_, c3, ?_⟩ | refine ⟨_, c4, ?_⟩ | refine ⟨_, c5, ?_⟩ | refine ⟨_, c6, ?_⟩ | refine ⟨_, c7, ?_⟩ | refine ⟨_, c8', ?_⟩ | refine br_f z0 ?_ | refine br_f zA ?_ | refine br_f t1 ?_ | refine br_f t2 ?_ | refine br_f t3 ?_ | refine And.intro (by kernel_rfl) ?_ | refine And.intro (by decide) ?_
      rw [hmod, ← qneg]; rfl

end
end Go.Proofs.YtlaffgojgfdlnaaGreat.A
