/- The contracts of the references of layers 1 and 2: sizes, plain forms, what is told, places and floors, for all numbers of at most a thousand parts. -/
import Derived.Test.YtlaffgojgfdlnaaGreatS7
import Derived.Test.YtlaffgojgfdlnaaGreatPx5
import Derived.Test.YtlaffgojgfdlnaaGreatPx6
set_option linter.unusedVariables false
set_option linter.unusedSimpArgs false
set_option linter.constructorNameAsVariable false
set_option maxRecDepth 100000
set_option maxHeartbeats 4000000
namespace Go.Proofs.YtlaffgojgfdlnaaGreat.A
open Go.RowKit Go.Proofs.YtlaffgojgfdlnaaGreat.P Go.Proofs.YtlaffgojgfdlnaaGreatW.PrintWords Go.Proofs.YtlaffgojgfdlnaaGreatW.PrintMore Go.Proofs.YtlaffgojgfdlnaaGreat.N Sk Dy
/-! ### The reference of layer 1, where layer 2's asks it -/
theorem rleft_snd {n : Nat} {k : Int} (h0 : 0 ≤ k) (h1 : k ≤ 100000000) (hn : nlen n ≤ 100000000) : Snd Tryz.prog 105 [.a (bA n), .a (iA k)] (.a (bA (n * 2 ^ k.toNat))) := by
  refine ⟨⟨_, Tryz.func105, by kernel_rfl, rfl⟩, fun w Pk vs hvs => ?_⟩
  obtain ⟨v, u, rfl, hv, rfl⟩ := args2 hvs
  obtain ⟨A, c, rfl, hc, hf⟩ := (show Kd.V Kd.bool 0 w 0 Pk v (bts n) from hv)
  refine (slipstickref01_Left.calls Pk A c (bts n) k _ w ⟨A, c, rfl, hc, hf⟩ (rleft_eq n k h0 h1 hn)).mono ?_
  rintro e w' ⟨v, rfl, hv, hb⟩
  exact ⟨_, rfl, hv, hb⟩
theorem rright_snd {n : Nat} (k : Int) (hn : nlen n ≤ 100000000) : Snd Tryz.prog 118 [.a (bA n), .a (iA k)] (.t [.a (bA (rightN n k)), .a (.b (rightL n k))]) := by
  obtain ⟨K, hK⟩ := rright_ev n k hn
  refine ⟨⟨_, Tryz.func118, by kernel_rfl, rfl⟩, fun w Pk vs hvs => ?_⟩
  obtain ⟨v, u, rfl, hv, rfl⟩ := args2 hvs
  obtain ⟨A, c, rfl, hc, hf⟩ := (show Kd.V Kd.bool 0 w 0 Pk v (bts n) from hv)
  refine (slipstickref01_Right.calls K Pk A c (bts n) k _ _ w ⟨A, c, rfl, hc, hf⟩ (hK K (Nat.le_refl _))).mono ?_
  rintro e w' ⟨v, rfl, hv, hb⟩
  exact ⟨_, rfl, ⟨_, rfl, hv, rfl, trivial⟩, hb⟩
theorem radd_snd {m n : Nat} (hm : nlen m ≤ 10000000) (hn : nlen n ≤ 10000000) : Snd Tryz.prog 82 [.a (bA m), .a (bA n)] (.a (bA (m + n))) := by
  obtain ⟨K, hK⟩ := raddb_ev hm hn
  refine ⟨⟨_, Tryz.func82, by kernel_rfl, rfl⟩, fun w Pk vs hvs => ?_⟩
  obtain ⟨v, u, rfl, ⟨A, c, rfl, hc, hf⟩, ⟨A', c', rfl, hc', hf'⟩⟩ := args2 hvs
  refine (slipstickref01_Add.calls K A c _ A' c' _ _ w (Kd.F_now hf) hc (Kd.F_now hf') hc' (hK K (Nat.le_refl _))).mono ?_
  rintro e w' ⟨v, rfl, hv, hb⟩
  exact ⟨_, rfl, Kd.V_mono hv (fun k hk => .inr hk), hb⟩
theorem rsub_snd {m n : Nat} (hm : nlen m ≤ 10000000) (h : n ≤ m) : Snd Tryz.prog 84 [.a (bA m), .a (bA n)] (.a (bA (m - n))) := by
  obtain ⟨K, hK⟩ := rsubb_ev hm h
  refine ⟨⟨_, Tryz.func84, by kernel_rfl, rfl⟩, fun w Pk vs hvs => ?_⟩
  obtain ⟨v, u, rfl, ⟨A, c, rfl, hc, hf⟩, ⟨A', c', rfl, hc', hf'⟩⟩ := args2 hvs
  refine (slipstickref01_Sub.calls K A c _ A' c' _ _ w (Kd.F_now hf) hc (Kd.F_now hf') hc' (hK K (Nat.le_refl _))).mono ?_
  rintro e w' ⟨v, rfl, hv, hb⟩
  exact ⟨_, rfl, Kd.V_mono hv (fun k hk => .inr hk), hb⟩
theorem rcmp_snd {m n : Nat} (hm : nlen m ≤ 10000000) (hn : nlen n ≤ 10000000) : Snd Tryz.prog 83 [.a (bA m), .a (bA n)] (.a (iA (sg m n))) := by
  obtain ⟨K, hK⟩ := rcmpb_ev hm hn
  refine ⟨⟨_, Tryz.func83, by kernel_rfl, rfl⟩, fun w Pk vs hvs => ?_⟩
  obtain ⟨v, u, rfl, ⟨A, c, rfl, hc, hf⟩, ⟨A', c', rfl, hc', hf'⟩⟩ := args2 hvs
  refine (slipstickref01_Cmp.calls K A c _ A' c' _ _ w (Kd.F_now hf) hc (Kd.F_now hf') hc' (hK K (Nat.le_refl _))).mono ?_
  rintro e w' ⟨rfl, hb⟩
  exact ⟨_, rfl, rfl, hb⟩
theorem rmul_snd {m n : Nat} (hm : nlen m ≤ 1000000) (hn : nlen n ≤ 1000000) : Snd Tryz.prog 80 [.a (bA m), .a (bA n)] (.a (bA (m * n))) := by
  obtain ⟨K, hK⟩ := rmul_ev hm hn
  refine ⟨⟨_, Tryz.func80, by kernel_rfl, rfl⟩, fun w Pk vs hvs => ?_⟩
  obtain ⟨v, u, rfl, ⟨A, c, rfl, hc, hf⟩, ⟨A', c', rfl, hc', hf'⟩⟩ := args2 hvs
  refine (slipstickref01_Mul.calls K Pk A c _ A' c' _ _ w ⟨A, c, rfl, hc, hf⟩ (Kd.F_now hf') hc' (hK K (Nat.le_refl _))).mono ?_
  rintro e w' ⟨v, rfl, hv, hb⟩
  exact ⟨_, rfl, hv, hb⟩
/-! ### The reference of layer 2 -/
abbrev eA (d : Dy) : List AA := [.b d.neg, bA d.n, iA d.e]
abbrev sA (r : Dy × Int) : AV := .t [.g (eA r.1), .a (iA r.2)]
theorem eA_zero : eA Dy.zero = [.b false, .w [], .i .i64 0] := by show [AA.b false, .w (bts 0), .i .i64 0] = _; rw [bits_zero]
theorem sA_zero (m : Int) : sA (Dy.zero, m) = .t [.g [.b false, .w [], .i .i64 0], .a (iA m)] := by show AV.t [.g (eA Dy.zero), _] = _; rw [eA_zero]
theorem beq_blen {n : Nat} : (((bts n).length : Int) == 0) = decide (n = 0) := beq_len0
theorem rmay_snd (d : Dy) : Snd Tryz.prog 78 [.g (eA d)] (.a (.b d.may)) := by
  refine snd_of ttOk mixed Tryz.func78 Tryz.ntmps78 rfl (by kernel_rfl) rfl ?_
  have hb : ((bts d.n).length : Int) = nlen d.n := rfl
  unfold Dy.may
  by_cases h1 : nlen d.n ≤ 4096
  · have z1 : decide (((bts d.n).length : Int) ≤ 4096) = true := decide_eq_true (by omega)
    rw [decide_eq_true h1, Bool.true_and]
    by_cases h2 : -8192 ≤ d.e
    · have z2 : decide (d.e ≥ -8192) = true := decide_eq_true h2
      rw [decide_eq_true h2, Bool.true_and]
      repeat (conv => whnf); first | refine br_t z1 ?_ | refine br_t z2 ?_ | refine br_tt ?_ | refine br_ff ?_ | refine And.intro (by kernel_rfl) ?_
      rfl
    · have z2 : decide (d.e ≥ -8192) = false := decide_eq_false h2
      rw [decide_eq_false h2, Bool.false_and]
      repeat (conv => whnf); first | refine br_t z1 ?_ | refine br_f z2 ?_ | refine br_tt ?_ | refine br_ff ?_ | refine And.intro (by kernel_rfl) ?_
      rfl
  · have z1 : decide (((bts d.n).length : Int) ≤ 4096) = false := decide_eq_false (by omega)
    rw [decide_eq_false h1, Bool.false_and]
    repeat (conv => whnf); first | refine br_f z1 ?_ | refine br_tt ?_ | refine br_ff ?_ | refine And.intro (by kernel_rfl) ?_
    rfl
theorem rplain_snd {d : Dy} (hn : nlen d.n ≤ 1000000) (he : -10000000 ≤ d.e ∧ d.e ≤ 10000000) : Snd Tryz.prog 75 [.g (eA d)] (.g (eA d.plain)) := by
  refine snd_of ttOk mixed Tryz.func75 Tryz.ntmps75 rfl (by kernel_rfl) rfl ?_
  have z := beq_blen (n := d.n)
  by_cases h0 : d.n = 0
  · rw [decide_eq_true h0] at z
    rw [plain_zero h0, eA_zero]
    repeat (conv => whnf); first | refine br_t z ?_ | refine br_tt ?_ | refine br_ff ?_ | refine And.intro (by kernel_rfl) ?_
    rfl
  · have ht := tz_lt_nlen h0
    rw [decide_eq_false h0] at z
    have c := rzeros_snd (n := d.n) (by omega)
    have hb : ((bts d.n).length : Int) = nlen d.n := rfl
    have hcut : (0 : Int) ≤ ((tz d.n : Nat) : Int) ∧ ((tz d.n : Nat) : Int) ≤ ((bts d.n).length : Int) := by omega
    repeat (conv => whnf); first | refine br_f z ?_ | refine ⟨_, c, ?_⟩ | refine And.intro hcut ?_ | refine br_tt ?_ | refine br_ff ?_ | refine And.intro (by kernel_rfl) ?_
    show AV.g [.b d.neg, .w ((bts d.n).drop (((tz d.n : Nat) : Int)).toNat), iA (IntKind.wrap .i64 (d.e + (tz d.n : Nat)))] = _
    rw [Int.toNat_natCast, drop_bits, wI (by omega) (by omega), plain_pos h0]
theorem rtold_snd {d : Dy} (hn : nlen d.n ≤ 1000000) (he : -10000000 ≤ d.e ∧ d.e ≤ 10000000) : Snd Tryz.prog 79 [.g (eA d)] (sA (Dy.told d)) := by
  have c1 := rplain_snd hn he
  have c2 := rmay_snd d.plain
  refine snd_of ttOk mixed Tryz.func79 Tryz.ntmps79 rfl (by kernel_rfl) rfl ?_
  unfold Dy.told
  by_cases h : d.plain.may = true
  · rw [if_pos h]
    rw [h] at c2
    repeat (conv => whnf); first | refine ⟨_, c1, ?_⟩ | refine ⟨_, c2, ?_⟩ | refine br_tt ?_ | refine br_ff ?_ | refine And.intro (by kernel_rfl) ?_
    rfl
  · rw [if_neg h, sA_zero]
    rw [Bool.not_eq_true] at h
    rw [h] at c2
    repeat (conv => whnf); first | refine ⟨_, c1, ?_⟩ | refine ⟨_, c2, ?_⟩ | refine br_tt ?_ | refine br_ff ?_ | refine And.intro (by kernel_rfl) ?_
    rfl
theorem rtop_snd (a : Dy) : Snd Tryz.prog 115 [.g (eA a)] (cA (Dy.top a)) := by
  have c := rmay_snd a
  refine snd_of ttOk mixed Tryz.func115 Tryz.ntmps115 rfl (by kernel_rfl) rfl ?_
  have z := beq_blen (n := a.n)
  unfold Dy.top
  by_cases h : a.may = true
  · have ba := may_iff.1 h
    rw [if_pos h]
    rw [h] at c
    by_cases h0 : a.n = 0
    · rw [if_pos h0]
      rw [decide_eq_true h0] at z
      repeat (conv => whnf); first | refine ⟨_, c, ?_⟩ | refine br_t z ?_ | refine br_tt ?_ | refine br_ff ?_ | refine And.intro (by kernel_rfl) ?_
      rfl
    · rw [if_neg h0]
      rw [decide_eq_false h0] at z
      repeat (conv => whnf); first | refine ⟨_, c, ?_⟩ | refine br_f z ?_ | refine br_tt ?_ | refine br_ff ?_ | refine And.intro (by kernel_rfl) ?_
      show AV.t [.a (iA (IntKind.wrap .i64 (IntKind.wrap .i64 (a.e + nlen a.n) - 1))), .a (iA 0)] = _
      rw [wI (x := a.e + _) (by omega) (by omega), wI (by omega) (by omega)]
  · rw [if_neg h]
    rw [Bool.not_eq_true] at h
    rw [h] at c
    repeat (conv => whnf); first | refine ⟨_, c, ?_⟩ | refine br_tt ?_ | refine br_ff ?_ | refine And.intro (by kernel_rfl) ?_
    rfl
abbrev gA (r : Dy × Bool × Int) : AV := .t [.g (eA r.1), .a (.b r.2.1), .a (iA r.2.2)]
theorem gA_zero (m : Int) : gA (Dy.zero, false, m) = .t [.g [.b false, .w [], .i .i64 0], .a (.b false), .a (iA m)] := by show AV.t [.g (eA Dy.zero), _, _] = _; rw [eA_zero]
theorem rfloor_snd (a : Dy) (at_ : Int) : Snd Tryz.prog 114 [.g (eA a), .a (iA at_)] (gA (Dy.floor a at_)) := by
  have c := rmay_snd a
  refine snd_of ttOk mixed Tryz.func114 Tryz.ntmps114 rfl (by kernel_rfl) rfl ?_
  by_cases ma : a.may = true
  case neg =>
    have e1 : Dy.floor a at_ = (Dy.zero, false, 3) := by unfold Dy.floor; rw [if_neg ma]
    rw [Bool.not_eq_true] at ma
    rw [ma] at c
    rw [e1, gA_zero]
    repeat (conv => whnf); first | refine ⟨_, c, ?_⟩ | refine br_tt ?_ | refine br_ff ?_ | refine And.intro (by kernel_rfl) ?_
    rfl
  have bm := may_iff.1 ma
  rw [ma] at c
  by_cases w1 : at_ < -8192
  · have e1 : Dy.floor a at_ = (Dy.zero, false, 1) := by unfold Dy.floor; rw [if_pos ma, if_neg (by omega)]
    rw [e1, gA_zero]
    have z1 := decide_eq_true w1
    repeat (conv => whnf); first | refine ⟨_, c, ?_⟩ | refine br_t z1 ?_ | refine br_tt ?_ | refine br_ff ?_ | refine And.intro (by kernel_rfl) ?_
    rfl
  have z1 := decide_eq_false w1
  by_cases w2 : at_ > 8192
  · have e1 : Dy.floor a at_ = (Dy.zero, false, 1) := by unfold Dy.floor; rw [if_pos ma, if_neg (by omega)]
    rw [e1, gA_zero]
    have z2 := decide_eq_true w2
    repeat (conv => whnf); first | refine ⟨_, c, ?_⟩ | refine br_f z1 ?_ | refine br_t z2 ?_ | refine br_tt ?_ | refine br_ff ?_ | refine And.intro (by kernel_rfl) ?_
    rfl
  have z2 := decide_eq_false w2
  have e1 : Dy.floor a at_ = if at_ ≤ a.e then (a.plain, false, 0) else (Dy.plain ⟨a.neg, a.n / 2 ^ (at_ - a.e).toNat, at_⟩, decide (a.n % 2 ^ (at_ - a.e).toNat ≠ 0), 0) := by
    unfold Dy.floor; rw [if_pos ma, if_pos (by omega)]
  by_cases h1 : at_ ≤ a.e
  · rw [e1, if_pos h1]
    have z3 : decide (a.e ≥ at_) = true := decide_eq_true h1
    have c2 := rplain_snd (d := a) (by omega) (by omega)
    repeat (conv => whnf); first | refine ⟨_, c, ?_⟩ | refine ⟨_, c2, ?_⟩ | refine br_f z1 ?_ | refine br_f z2 ?_ | refine br_t z3 ?_ | refine br_tt ?_ | refine br_ff ?_ | refine And.intro (by kernel_rfl) ?_
    rfl
  · rw [e1, if_neg h1]
    have z3 : decide (a.e ≥ at_) = false := decide_eq_false h1
    have hd : nlen (a.n / 2 ^ (at_ - a.e).toNat) ≤ 4096 := by rw [nlen_div_pow]; omega
    have w3 : IntKind.wrap .i64 (at_ - a.e) = at_ - a.e := wI (by omega) (by omega)
    have c2 := rright_snd (n := a.n) (at_ - a.e) (by omega)
    have c3 := rplain_snd (d := ⟨a.neg, a.n / 2 ^ (at_ - a.e).toNat, at_⟩) (by dsimp only; omega) (by dsimp only; omega)
    rw [← w3] at c2
    rw [← w3] at c3
    rw [← w3]
    repeat (conv => whnf); first | refine ⟨_, c, ?_⟩ | refine ⟨_, c2, ?_⟩ | refine ⟨_, c3, ?_⟩ | refine br_f z1 ?_ | refine br_f z2 ?_ | refine br_f z3 ?_ | refine br_tt ?_ | refine br_ff ?_ | refine And.intro (by kernel_rfl) ?_
    rfl
end Go.Proofs.YtlaffgojgfdlnaaGreat.A
