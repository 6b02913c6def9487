/- The contracts of reference 4's May, Place and Neighbours, and the law RoundNears answers true, at every input of its types. -/
import Derived.Test.YtlaffgojgfdlnaaGreatS25
import Derived.Test.YtlaffgojgfdlnaaGreatS11
set_option linter.unusedVariables false
set_option linter.unusedSimpArgs false
set_option linter.constructorNameAsVariable false
set_option linter.unusedSectionVars false
set_option maxRecDepth 100000
set_option maxHeartbeats 8000000
namespace Go.Proofs.YtlaffgojgfdlnaaGreat.A
open Go.RowKit Go.Proofs.YtlaffgojgfdlnaaGreat.P Go.Proofs.YtlaffgojgfdlnaaGreatW.PrintWords Go.Proofs.YtlaffgojgfdlnaaGreatW.PrintMore Go.Proofs.YtlaffgojgfdlnaaGreat.N Sk Dy
/-! ### Reference 4: may be rounded, places, neighbours -/
theorem r4may_snd (d : Dy) : Snd Tryz.prog 85 [.g (eA d)] (.a (.b (rmay d))) := by
  have c1 := rmay_snd d
  refine snd_of ttOk mixed Tryz.func85 Tryz.ntmps85 rfl (by kernel_rfl) rfl ?_
  unfold rmay
  by_cases ma : d.may = true
  case neg =>
    rw [Bool.not_eq_true] at ma
    rw [ma] at c1 ⊢
    repeat (conv => whnf); first | refine br_tt ?_ | refine br_ff ?_ | refine ⟨_, c1, ?_⟩ | refine And.intro (by kernel_rfl) ?_ | refine And.intro (by decide) ?_
    rfl
  have bm := may_iff.1 ma
  have bp := plain_bounds ma
  rw [ma] at c1 ⊢
  have c2 := rplain_snd (d := d) (by omega) (by omega)
  have c3 := rmay_snd d.plain
  have z0 := beq_blen (n := d.n)
  have w : IntKind.wrap .i64 (IntKind.wrap .i64 (d.e + ((bts d.n).length : Int)) - 1) = d.e + nlen d.n - 1 := by
    show IntKind.wrap .i64 (IntKind.wrap .i64 (d.e + ((nlen d.n : Nat) : Int)) - 1) = _
    rw [wI (x := d.e + _) (by omega) (by omega), wI (by omega) (by omega)]
  by_cases h0 : d.n = 0
  · rw [decide_eq_true h0] at z0
    have mp : d.plain.may = true := by rw [plain_zero h0]; exact zero_may
    rw [mp] at c3 ⊢
    rw [decide_eq_true (show d.n = 0 ∨ _ from .inl h0)]
    by_cases ht : d.e + (nlen d.n : Int) - 1 ≤ 8000
    · have z : decide (IntKind.wrap .i64 (IntKind.wrap .i64 (d.e + ((bts d.n).length : Int)) - 1) ≤ 8000) = true := by rw [w]; exact decide_eq_true ht
      repeat (conv => whnf); first | refine br_tt ?_ | refine br_ff ?_ | refine ⟨_, c1, ?_⟩ | refine ⟨_, c2, ?_⟩ | refine ⟨_, c3, ?_⟩ | refine br_t z ?_ | refine br_t z0 ?_ | refine And.intro (by kernel_rfl) ?_ | refine And.intro (by decide) ?_
      rfl
    · have z : decide (IntKind.wrap .i64 (IntKind.wrap .i64 (d.e + ((bts d.n).length : Int)) - 1) ≤ 8000) = false := by rw [w]; exact decide_eq_false ht
      repeat (conv => whnf); first | refine br_tt ?_ | refine br_ff ?_ | refine ⟨_, c1, ?_⟩ | refine ⟨_, c2, ?_⟩ | refine ⟨_, c3, ?_⟩ | refine br_f z ?_ | refine br_t z0 ?_ | refine And.intro (by kernel_rfl) ?_ | refine And.intro (by decide) ?_
      show AV.a (.b (((bts d.n).length : Int) == 0)) = _
      rw [z0]; rfl
  rw [decide_eq_false h0] at z0
  have tp := top_plain h0
  by_cases mp : d.plain.may = true
  case neg =>
    rw [Bool.not_eq_true] at mp
    rw [mp] at c3 ⊢
    repeat (conv => whnf); first | refine br_tt ?_ | refine br_ff ?_ | refine ⟨_, c1, ?_⟩ | refine ⟨_, c2, ?_⟩ | refine ⟨_, c3, ?_⟩ | refine br_f z0 ?_ | refine And.intro (by kernel_rfl) ?_ | refine And.intro (by decide) ?_
    show AV.a (.b (((bts d.n).length : Int) == 0)) = _
    rw [z0]; rfl
  rw [mp] at c3 ⊢
  by_cases ht : d.e + (nlen d.n : Int) - 1 ≤ 8000
  · have z : decide (IntKind.wrap .i64 (IntKind.wrap .i64 (d.e + ((bts d.n).length : Int)) - 1) ≤ 8000) = true := by rw [w]; exact decide_eq_true ht
    rw [decide_eq_true (show d.n = 0 ∨ _ from .inr (by omega))]
    repeat (conv => whnf); first | refine br_tt ?_ | refine br_ff ?_ | refine ⟨_, c1, ?_⟩ | refine ⟨_, c2, ?_⟩ | refine ⟨_, c3, ?_⟩ | refine br_t z ?_ | refine br_f z0 ?_ | refine And.intro (by kernel_rfl) ?_ | refine And.intro (by decide) ?_
    rfl
  · have z : decide (IntKind.wrap .i64 (IntKind.wrap .i64 (d.e + ((bts d.n).length : Int)) - 1) ≤ 8000) = false := by rw [w]; exact decide_eq_false ht
    rw [decide_eq_false (show ¬ (d.n = 0 ∨ _) from fun k => k.elim h0 (by omega))]
    repeat (conv => whnf); first | refine br_tt ?_ | refine br_ff ?_ | refine ⟨_, c1, ?_⟩ | refine ⟨_, c2, ?_⟩ | refine ⟨_, c3, ?_⟩ | refine br_f z ?_ | refine br_f z0 ?_ | refine And.intro (by kernel_rfl) ?_ | refine And.intro (by decide) ?_
    show AV.a (.b (((bts d.n).length : Int) == 0)) = _
    rw [z0]; rfl
theorem r4size_snd (d : Dy) : Snd Tryz.prog 90 [.g (eA d)] (.g (eA ⟨false, d.n, d.e⟩)) := by
  refine snd_of ttOk mixed Tryz.func90 Tryz.ntmps90 rfl (by kernel_rfl) rfl ?_
  repeat (conv => whnf); first | refine br_tt ?_ | refine br_ff ?_ | refine And.intro (by kernel_rfl) ?_ | refine And.intro (by decide) ?_
  rfl
/-- Plain forms that are of one value are the same. -/
theorem va_eq {a b : Dy} {E x : Int} (ha : Va a E x) (hb : Va b E x) (pa : a.plain = a) (pb : b.plain = b) : a = b := by
  by_cases h : x = 0
  · subst h
    rw [← pa, ← pb, plain_zero (ha.at.2 rfl), plain_zero (hb.at.2 rfl)]
  · have a0 : a.n ≠ 0 := fun e => h (ha.at.1 e)
    have b0 : b.n ≠ 0 := fun e => h (hb.at.1 e)
    have s1 := Fm.sv_sign a0 E
    have s2 := Fm.sv_sign b0 E
    rw [ha.2] at s1
    rw [hb.2] at s2
    rw [← pa, ← pb]
    exact plain_congr (ha.1 a0) (hb.1 b0) (by rw [s1.1, s2.1]) (by rw [← s1.2, ← s2.2])
section
variable {f : Fm} (h : f.ok)
include h
theorem r4place_snd {a : Dy} (ha : rmay a = true) (h0 : a.n ≠ 0) : Snd Tryz.prog 110 [.g (fmA f), .g (eA a)] (.a (iA (f.plc a.plain))) := by
  have hB := Fm.bounds h
  obtain ⟨m1, m2, _⟩ := rmay_iff.1 ha
  have b1 := may_iff.1 m1
  have b2 := may_iff.1 m2
  have q0 : a.plain.n ≠ 0 := fun z => h0 (plain_n.1 z)
  have c1 := rplain_snd (d := a) (by omega) (by omega)
  have c2 := rtop_snd a.plain
  rw [show Dy.top a.plain = (a.plain.e + nlen a.plain.n - 1, 0) by unfold Dy.top; rw [if_pos m2, if_neg q0]] at c2
  have c3 := rlow_snd h
  refine snd_of ttOk mixed Tryz.func110 Tryz.ntmps110 rfl (by kernel_rfl) rfl ?_
  repeat (conv => whnf); first | refine br_tt ?_ | refine br_ff ?_ | refine ⟨_, c1, ?_⟩ | refine ⟨_, c2, ?_⟩ | refine ⟨_, c3, ?_⟩ | refine And.intro (by kernel_rfl) ?_ | refine And.intro (by decide) ?_
  show AV.a (iA (if f.low > IntKind.wrap .i64 (IntKind.wrap .i64 (a.plain.e + (nlen a.plain.n : Int) - 1 - (f.p : Int)) + 1) then f.low else IntKind.wrap .i64 (IntKind.wrap .i64 (a.plain.e + (nlen a.plain.n : Int) - 1 - (f.p : Int)) + 1))) = _
  rw [wI (x := _ - _) (by omega) (by omega), wI (by omega) (by omega), bmax]; rfl
/-- The neighbour towards 0, and whether a number is no neighbour. -/
theorem floor_cut {q : Dy} (m : q.may = true) (q0 : q.n ≠ 0) (hp : q.plain = q) (hb : f.plc q ≤ 8192) : Dy.floor ⟨false, q.n, q.e⟩ (f.plc q) = (Dy.plain ⟨false, f.ctn q, f.plc q⟩, (hf (f.kr q) q.n || ls (f.kr q) q.n), 0) := by
  have pb := plc_b h m
  unfold Dy.floor
  rw [if_pos (show (⟨false, q.n, q.e⟩ : Dy).may = true from m), if_pos (by omega)]
  by_cases hk : f.plc q ≤ q.e
  · rw [if_pos hk]
    have e0 : f.kr q = 0 := by unfold Fm.kr; omega
    have ec : f.ctn q = q.n * 2 ^ f.kl q := by unfold Fm.ctn; rw [e0, Nat.pow_zero, Nat.div_one]
    rw [e0, show hf 0 q.n = false by unfold hf; simp, show ls 0 q.n = false by unfold ls; simp, ec]
    congr 1
    refine plain_congr (E := f.plc q) hk (Int.le_refl _) rfl ?_
    unfold Dy.dv
    dsimp only
    rw [Int.sub_self]
    show q.n * 2 ^ f.kl q = q.n * 2 ^ f.kl q * 2 ^ 0
    rw [Nat.pow_zero, Nat.mul_one]
  · rw [if_neg hk]
    have el : f.kl q = 0 := by unfold Fm.kl; omega
    have ec : f.ctn q = q.n / 2 ^ f.kr q := by unfold Fm.ctn; rw [el, Nat.pow_zero, Nat.mul_one]
    have ei := inex_iff (k := f.kr q) (x := q.n)
    rw [ec]
    show (Dy.plain ⟨false, q.n / 2 ^ f.kr q, f.plc q⟩, decide (q.n % 2 ^ f.kr q ≠ 0), (0 : Int)) = _
    congr 2
    cases hi : (hf (f.kr q) q.n || ls (f.kr q) q.n) with
    | true => exact decide_eq_true (ei.1 hi)
    | false => exact decide_eq_false (fun z => by rw [ei.2 z] at hi; cases hi)
theorem add_one {N : Nat} {P : Int} (hN : N < 2 ^ 60) (h1 : -8192 ≤ P) (h2 : P ≤ 8100) : Dy.add (Dy.plain ⟨false, N, P⟩) ⟨false, 1, P⟩ = (Dy.plain ⟨false, N + 1, P⟩, 0) := by
  have nN := nlen_le_iff.2 hN
  have vN : ∀ k : Nat, Va ⟨false, k, P⟩ P ((k : Nat) : Int) := fun k => by
    refine ⟨fun _ => Int.le_refl _, ?_⟩
    unfold Dy.sv; rw [if_neg (by simp), dv_self]
  have n1 : nlen (N + 1) ≤ 61 := nlen_le_iff.2 (by omega)
  have e1 : (((N : Nat) : Int) + ((1 : Nat) : Int)).natAbs = N + 1 := by omega
  have n11 : nlen 1 = 1 := by decide +kernel
  have mp : (Dy.plain ⟨false, N, P⟩).may = true := by
    by_cases z : N = 0
    · rw [plain_zero (a := ⟨false, N, P⟩) z]; exact zero_may
    · have g1 := plain_e_ge ⟨false, N, P⟩ z
      have g2 := top_plain (a := ⟨false, N, P⟩) z
      have g3 := plain_nlen_le ⟨false, N, P⟩
      have g4 := nlen_eq_zero (n := (Dy.plain ⟨false, N, P⟩).n)
      have g5 : (Dy.plain ⟨false, N, P⟩).n ≠ 0 := fun k => z (plain_n.1 k)
      dsimp only at g1 g2 g3
      exact may_of (k := 61) (by omega) (by omega) (by omega) (by omega)
  obtain ⟨r, er, vr, mr, pr, nr⟩ := add_va mp (may_of (d := ⟨false, 1, P⟩) (k := 61) (by dsimp only; omega) (by omega) h1 (by dsimp only; omega)) (vN N).plain (vN 1) (by rw [e1]; omega) h1 (by rw [e1]; omega)
  rw [er]
  congr 1
  refine va_eq vr (x := ((N : Nat) : Int) + ((1 : Nat) : Int)) ?_ pr (plain_plain _)
  have := (vN (N + 1)).plain
  rwa [Int.natCast_add] at this
theorem r4nb_snd {a : Dy} (ha : rmay a = true) : Snd Tryz.prog 108 [.g (fmA f), .g (eA a)] (.t [.g (eA (if a.n = 0 then Dy.zero else Dy.plain ⟨false, f.ctn a.plain, f.plc a.plain⟩)), .g (eA (if a.n = 0 then Dy.zero else Dy.plain ⟨false, f.ctn a.plain + (if (hf (f.kr a.plain) a.plain.n || ls (f.kr a.plain) a.plain.n) = true then 1 else 0), f.plc a.plain⟩))]) := by
  have hB := Fm.bounds h
  obtain ⟨m1, m2, m3⟩ := rmay_iff.1 ha
  have b1 := may_iff.1 m1
  have z0 := beq_blen (n := a.n)
  refine snd_of ttOk mixed Tryz.func108 Tryz.ntmps108 rfl (by kernel_rfl) rfl ?_
  by_cases h0 : a.n = 0
  · rw [decide_eq_true h0] at z0
    rw [if_pos h0, if_pos h0, eA_zero]
    repeat (conv => whnf); first | refine br_tt ?_ | refine br_ff ?_ | refine br_t z0 ?_ | refine And.intro (by kernel_rfl) ?_ | refine And.intro (by decide) ?_
    rfl
  rw [decide_eq_false h0] at z0
  rw [if_neg h0, if_neg h0]
  have q0 : a.plain.n ≠ 0 := fun z => h0 (plain_n.1 z)
  have qp := plain_plain a
  have c1 := r4place_snd h ha h0
  have c2 := rplain_snd (d := a) (by omega) (by omega)
  generalize a.plain = q at *
  have b2 := may_iff.1 m2
  have pb := plc_b h m2
  have pt : f.plc q ≤ 8000 := by unfold Fm.plc; omega
  have c3 := r4size_snd q
  have c4 := rfloor_snd ⟨false, q.n, q.e⟩ (f.plc q)
  rw [floor_cut h m2 q0 qp (by omega)] at c4
  have lt := ctn_lt (f := f) q0
  have c5 := rword_snd (n := 1) (by omega) (by omega)
  have c6 := radd2_snd (Dy.plain ⟨false, f.ctn q, f.plc q⟩) ⟨false, 1, f.plc q⟩
  rw [add_one h (Nat.lt_of_lt_of_le lt (Nat.pow_le_pow_right (by omega) (by omega))) (by omega) (by omega)] at c6
  cases hl : (hf (f.kr q) q.n || ls (f.kr q) q.n) with
  | false =>
    rw [hl] at c4
    repeat (conv => whnf); first | refine br_tt ?_ | refine br_ff ?_ | refine ⟨_, c1, ?_⟩ | refine ⟨_, c2, ?_⟩ | refine ⟨_, c3, ?_⟩ | refine ⟨_, c4, ?_⟩ | refine br_f z0 ?_ | refine And.intro (by kernel_rfl) ?_ | refine And.intro (by decide) ?_
    rfl
  | true =>
    rw [hl] at c4
    repeat (conv => whnf); first | refine br_tt ?_ | refine br_ff ?_ | refine ⟨_, c1, ?_⟩ | refine ⟨_, c2, ?_⟩ | refine ⟨_, c3, ?_⟩ | refine ⟨_, c4, ?_⟩ | refine ⟨_, c5, ?_⟩ | refine ⟨_, c6, ?_⟩ | refine br_f z0 ?_ | refine And.intro (by kernel_rfl) ?_ | refine And.intro (by decide) ?_
    rfl
end
end Go.Proofs.YtlaffgojgfdlnaaGreat.A
