/- The contracts of reference 4's Beyond, Tiny and To, for all numbers of the document. -/
import Derived.Test.YtlaffgojgfdlnaaGreatS40
set_option linter.unusedVariables false
set_option linter.unusedSimpArgs false
set_option linter.constructorNameAsVariable false
set_option linter.unusedSectionVars false
set_option maxRecDepth 100000
set_option maxHeartbeats 8000000
namespace Go.Proofs.YtlaffgojgfdlnaaGreat.A
open Go.RowKit Go.Proofs.YtlaffgojgfdlnaaGreat.P Go.Proofs.YtlaffgojgfdlnaaGreatW.PrintWords Go.Proofs.YtlaffgojgfdlnaaGreatW.PrintMore Go.Proofs.YtlaffgojgfdlnaaGreat.N Sk Dy
section
variable {f : Fm} (h : f.ok)
include h
theorem r4beyond_snd (mode : Int) (neg : Bool) : Snd Tryz.prog 89 [.g (fmA f), .a (iA mode), .a (.b neg)] (.a (uA (f.beyond mode neg))) := by
  have c1 := rgrt_snd h neg
  have c2 := rinf_snd h neg
  refine snd_of ttOk mixed Tryz.func89 Tryz.ntmps89 rfl (by kernel_rfl) rfl ?_
  unfold Fm.beyond
  by_cases m1 : mode = 1
  · subst m1
    rw [if_pos (.inl rfl)]
    repeat (conv => whnf); first | refine br_tt ?_ | refine br_ff ?_ | refine ⟨_, c1, ?_⟩ | refine ⟨_, c2, ?_⟩ | refine And.intro (by kernel_rfl) ?_ | refine And.intro (by decide) ?_
    rfl
  have z1 : (mode == 1) = false := by rw [beq_eq_false_iff_ne]; exact m1
  by_cases m2 : mode = 2
  · subst m2
    cases neg
    · rw [if_pos (by simp)]
      repeat (conv => whnf); first | refine br_tt ?_ | refine br_ff ?_ | refine ⟨_, c1, ?_⟩ | refine ⟨_, c2, ?_⟩ | refine And.intro (by kernel_rfl) ?_ | refine And.intro (by decide) ?_
      rfl
    · rw [if_neg (by simp)]
      repeat (conv => whnf); first | refine br_tt ?_ | refine br_ff ?_ | refine ⟨_, c1, ?_⟩ | refine ⟨_, c2, ?_⟩ | refine And.intro (by kernel_rfl) ?_ | refine And.intro (by decide) ?_
      rfl
  have z2 : (mode == 2) = false := by rw [beq_eq_false_iff_ne]; exact m2
  by_cases m3 : mode = 3
  · subst m3
    cases neg
    · rw [if_neg (by simp)]
      repeat (conv => whnf); first | refine br_tt ?_ | refine br_ff ?_ | refine ⟨_, c1, ?_⟩ | refine ⟨_, c2, ?_⟩ | refine And.intro (by kernel_rfl) ?_ | refine And.intro (by decide) ?_
      rfl
    · rw [if_pos (by simp)]
      repeat (conv => whnf); first | refine br_tt ?_ | refine br_ff ?_ | refine ⟨_, c1, ?_⟩ | refine ⟨_, c2, ?_⟩ | refine And.intro (by kernel_rfl) ?_ | refine And.intro (by decide) ?_
      rfl
  have z3 : (mode == 3) = false := by rw [beq_eq_false_iff_ne]; exact m3
  rw [if_neg (by simp [m1, m2, m3])]
  repeat (conv => whnf); first | refine br_tt ?_ | refine br_ff ?_ | refine ⟨_, c1, ?_⟩ | refine ⟨_, c2, ?_⟩ | refine br_f z1 ?_ | refine br_f z2 ?_ | refine br_f z3 ?_ | refine And.intro (by kernel_rfl) ?_ | refine And.intro (by decide) ?_
  rfl
theorem r4tiny_snd {d : Dy} (hr : rmay d = true) (h0 : d.n ≠ 0) : Snd Tryz.prog 91 [.g (fmA f), .g (eA d)] (.a (.b (f.tny d.plain))) := by
  have hB := Fm.bounds h
  obtain ⟨m1, m2, m3⟩ := rmay_iff.1 hr
  have b1 := may_iff.1 m1
  have b2 := may_iff.1 m2
  have q0 : d.plain.n ≠ 0 := fun z => h0 (plain_n.1 z)
  have c1 := r4may_snd d
  rw [hr] at c1
  have z0 := beq_blen (n := d.n)
  rw [decide_eq_false h0] at z0
  have c2 := rplain_snd (d := d) (by omega) (by omega)
  generalize d.plain = q at *
  have c3 := r4size_snd q
  have c4 := rlow_snd h
  have c5 := rword_snd (n := 1) (by omega) (by omega)
  obtain ⟨L, hL⟩ : ∃ L, L = f.low + f.p - 1 := ⟨_, rfl⟩
  have w1 : IntKind.wrap .i64 (IntKind.wrap .i64 (f.low + (f.p : Int)) - 1) = L := by rw [wI (x := f.low + _) (by omega) (by omega), wI (by omega) (by omega), hL]
  obtain ⟨E, hE⟩ : ∃ E, E = min q.e L := ⟨_, rfl⟩
  have vq : Va ⟨false, q.n, q.e⟩ E ((q.dv E : Nat) : Int) := by
    refine ⟨fun _ => by dsimp only; omega, ?_⟩
    unfold Dy.sv; rw [if_neg (by simp)]; rfl
  have vl : Va ⟨false, 1, L⟩ E ((2 ^ (L - E).toNat : Nat) : Int) := va_bit (by omega)
  have n11 : nlen 1 = 1 := by decide +kernel
  have c6 := rcmp2_snd ⟨false, q.n, q.e⟩ ⟨false, 1, L⟩
  rw [cmp_va (show (⟨false, q.n, q.e⟩ : Dy).may = true from m2) (may_of (k := 1) (by dsimp only; omega) (by omega) (by dsimp only; omega) (by dsimp only; omega)) vq vl] at c6
  have nx : nlen (q.dv E) = nlen q.n + (q.e - E).toNat := nlen_mul_pow q0 _
  have key : decide (sI (((q.dv E : Nat) : Int) - ((2 ^ (L - E).toNat : Nat) : Int)) < 0) = f.tny q := by
    unfold Fm.tny
    refine decide_eq_decide.2 ?_
    rw [sI_le.2.2]
    have := @nlen_le_iff (q.dv E) (L - E).toNat
    omega
  rw [← w1] at c6
  refine snd_of ttOk mixed Tryz.func91 Tryz.ntmps91 rfl (by kernel_rfl) rfl ?_
  repeat (conv => whnf); first | refine br_tt ?_ | refine br_ff ?_ | refine ⟨_, c1, ?_⟩ | refine ⟨_, c2, ?_⟩ | refine ⟨_, c3, ?_⟩ | refine ⟨_, c4, ?_⟩ | refine ⟨_, c5, ?_⟩ | refine ⟨_, c6, ?_⟩ | refine br_f z0 ?_ | refine And.intro (by kernel_rfl) ?_ | refine And.intro (by decide) ?_
  rw [← key, ← w1]
  rfl
theorem to4_snd (mode : Int) (d : Dy) (neg : Bool) : Snd Tryz.prog 43 [.g (fmA f), .a (iA mode), .g (eA d), .a (.b neg)] (tA (f.rto mode d neg)) := by
  have hB := Fm.bounds h
  have c1 := r4may_snd d
  have z0 := beq_blen (n := d.n)
  refine snd_of ttOk mixed Tryz.func43 Tryz.ntmps43 rfl (by kernel_rfl) rfl ?_
  by_cases p1 : mode < 0
  · have z1 := decide_eq_true p1
    rw [show f.rto mode d neg = (0, 0, 1) from if_pos (.inl p1)]
    repeat (conv => whnf); first | refine br_tt ?_ | refine br_ff ?_ | refine br_t z1 ?_ | refine And.intro (by kernel_rfl) ?_ | refine And.intro (by decide) ?_
    rfl
  have z1 := decide_eq_false p1
  by_cases p2 : mode > 4
  · have z2 := decide_eq_true p2
    rw [show f.rto mode d neg = (0, 0, 1) from if_pos (.inr (by omega))]
    repeat (conv => whnf); first | refine br_tt ?_ | refine br_ff ?_ | refine br_f z1 ?_ | refine br_t z2 ?_ | refine And.intro (by kernel_rfl) ?_ | refine And.intro (by decide) ?_
    rfl
  have z2 := decide_eq_false p2
  have hm : 0 ≤ mode ∧ mode < 5 := by omega
  by_cases hr : rmay d = true
  case neg =>
    rw [show f.rto mode d neg = (0, 0, 3) by unfold Fm.rto; rw [if_neg (by omega), if_neg hr]]
    rw [Bool.not_eq_true] at hr
    rw [hr] at c1
    repeat (conv => whnf); first | refine br_tt ?_ | refine br_ff ?_ | refine ⟨_, c1, ?_⟩ | refine br_f z1 ?_ | refine br_f z2 ?_ | refine And.intro (by kernel_rfl) ?_ | refine And.intro (by decide) ?_
    rfl
  rw [hr] at c1
  by_cases h0 : d.n = 0
  · rw [Fm.rto_zero hm hr h0]
    rw [decide_eq_true h0] at z0
    have c2 := rbld_snd h (neg := neg) (e := 0) (x := 0) (Nat.two_pow_pos _) (Nat.two_pow_pos _)
    repeat (conv => whnf); first | refine br_tt ?_ | refine br_ff ?_ | refine ⟨_, c1, ?_⟩ | refine ⟨_, c2, ?_⟩ | refine br_f z1 ?_ | refine br_f z2 ?_ | refine br_t z0 ?_ | refine And.intro (by kernel_rfl) ?_ | refine And.intro (by decide) ?_
    rfl
  rw [decide_eq_false h0] at z0
  obtain ⟨m1, m2, m3⟩ := rmay_iff.1 hr
  have b1 := may_iff.1 m1
  obtain ⟨mC, nC, hh⟩ := Fm.rto_chosen h hm hr h0 neg
  have c2 := r4chosen_snd h hm hr h0
  have c3 := rgrt_snd h false
  obtain ⟨g1, g2, g3, g4⟩ := Fm.grt_cl h false
  have c4 := rval_snd h (Fm.lt64 h g2)
  rw [Fm.val_raw g2 (by omega)] at c4
  have c5 := rcmp2_snd (f.chosen mode d.plain) (f.raw (f.grt false)).plain
  rw [Fm.val_raw g2 (by omega)] at hh
  dsimp only at hh
  have c6 := rplain_snd (d := d) (by omega) (by omega)
  have c7 := r4size_snd d.plain
  have c8 := rcmp2_snd (f.chosen mode d.plain) ⟨false, d.plain.n, d.plain.e⟩
  have c9 := r4tiny_snd h hr h0
  have d1 := rput_snd h (a := f.chosen mode d.plain)
  have d2 := rbld_snd h (neg := true) (e := 0) (x := 0) (Nat.two_pow_pos _) (Nat.two_pow_pos _)
  have d3 := r4beyond_snd h mode d.neg
  rcases hh with ⟨e1, e2⟩ | ⟨k0, k1, b0, fl, e1, e2, e3, e4, e5, e6, e7⟩
  · rw [e1] at c5
    rw [e2]
    repeat (conv => whnf); first | refine br_tt ?_ | refine br_ff ?_ | refine ⟨_, c1, ?_⟩ | refine ⟨_, c2, ?_⟩ | refine ⟨_, c3, ?_⟩ | refine ⟨_, c4, ?_⟩ | refine ⟨_, c5, ?_⟩ | refine ⟨_, d3, ?_⟩ | refine br_f z1 ?_ | refine br_f z2 ?_ | refine br_f z0 ?_ | refine And.intro (by kernel_rfl) ?_ | refine And.intro (by decide) ?_
    rfl
  rw [e1] at c5
  rw [e3] at c8
  rw [e4] at d1
  rw [e6, e7]
  have y1 : decide (k0 > 0) = false := decide_eq_false e2
  have hB64 : 2 ^ (f.p + f.w - 1) * 2 ≤ 2 ^ 64 := by rw [← Nat.pow_succ]; exact Nat.pow_le_pow_right (by omega) (by omega)
  have sw : IntKind.wrap .u64 (((b0 : Nat) : Int) + ((f.bld true 0 0 : Nat) : Int)) = ((b0 + 2 ^ (f.p + f.w - 1) : Nat) : Int) := by
    rw [bld_zz h, if_pos rfl, wU (by omega) (by omega)]; omega
  generalize f.tny d.plain = ty at *
  by_cases k0' : k1 = 0
  · have y2 : (k1 != 0) = false := by rw [k0']; rfl
    rw [show (if k1 ≠ 0 then (if ty = true then (3 : Int) else 1) else 0) = 0 from if_neg (by simp [k0'])]
    cases hn : d.neg
    · repeat (conv => whnf); first | refine br_tt ?_ | refine br_ff ?_ | refine ⟨_, c1, ?_⟩ | refine ⟨_, c2, ?_⟩ | refine ⟨_, c3, ?_⟩ | refine ⟨_, c4, ?_⟩ | refine ⟨_, c5, ?_⟩ | refine ⟨_, c6, ?_⟩ | refine ⟨_, c7, ?_⟩ | refine ⟨_, c8, ?_⟩ | refine ⟨_, c9, ?_⟩ | refine ⟨_, d1, ?_⟩ | refine ⟨_, d2, ?_⟩ | refine ⟨_, d3, ?_⟩ | refine br_f z1 ?_ | refine br_f z2 ?_ | refine br_f z0 ?_ | refine br_f y1 ?_ | refine br_f y2 ?_ | refine br_f hn ?_ | refine And.intro (by kernel_rfl) ?_ | refine And.intro (by decide) ?_
      rfl
    · repeat (conv => whnf); first | refine br_tt ?_ | refine br_ff ?_ | refine ⟨_, c1, ?_⟩ | refine ⟨_, c2, ?_⟩ | refine ⟨_, c3, ?_⟩ | refine ⟨_, c4, ?_⟩ | refine ⟨_, c5, ?_⟩ | refine ⟨_, c6, ?_⟩ | refine ⟨_, c7, ?_⟩ | refine ⟨_, c8, ?_⟩ | refine ⟨_, c9, ?_⟩ | refine ⟨_, d1, ?_⟩ | refine ⟨_, d2, ?_⟩ | refine ⟨_, d3, ?_⟩ | refine br_f z1 ?_ | refine br_f z2 ?_ | refine br_f z0 ?_ | refine br_f y1 ?_ | refine br_f y2 ?_ | refine br_t hn ?_ | refine And.intro (by kernel_rfl) ?_ | refine And.intro (by decide) ?_
      show AV.t [.a (.i .u64 (IntKind.wrap .u64 (((b0 : Nat) : Int) + ((f.bld true 0 0 : Nat) : Int)))), .a (iA 0), .a (iA 0)] = _
      rw [sw]; rfl
  · have y2 : (k1 != 0) = true := by rw [bne_iff_ne]; exact k0'
    rw [if_pos k0']
    cases ty
    · cases hn : d.neg
      · repeat (conv => whnf); first | refine br_tt ?_ | refine br_ff ?_ | refine ⟨_, c1, ?_⟩ | refine ⟨_, c2, ?_⟩ | refine ⟨_, c3, ?_⟩ | refine ⟨_, c4, ?_⟩ | refine ⟨_, c5, ?_⟩ | refine ⟨_, c6, ?_⟩ | refine ⟨_, c7, ?_⟩ | refine ⟨_, c8, ?_⟩ | refine ⟨_, c9, ?_⟩ | refine ⟨_, d1, ?_⟩ | refine ⟨_, d2, ?_⟩ | refine ⟨_, d3, ?_⟩ | refine br_f z1 ?_ | refine br_f z2 ?_ | refine br_f z0 ?_ | refine br_f y1 ?_ | refine br_t y2 ?_ | refine br_f hn ?_ | refine And.intro (by kernel_rfl) ?_ | refine And.intro (by decide) ?_
        rfl
      · repeat (conv => whnf); first | refine br_tt ?_ | refine br_ff ?_ | refine ⟨_, c1, ?_⟩ | refine ⟨_, c2, ?_⟩ | refine ⟨_, c3, ?_⟩ | refine ⟨_, c4, ?_⟩ | refine ⟨_, c5, ?_⟩ | refine ⟨_, c6, ?_⟩ | refine ⟨_, c7, ?_⟩ | refine ⟨_, c8, ?_⟩ | refine ⟨_, c9, ?_⟩ | refine ⟨_, d1, ?_⟩ | refine ⟨_, d2, ?_⟩ | refine ⟨_, d3, ?_⟩ | refine br_f z1 ?_ | refine br_f z2 ?_ | refine br_f z0 ?_ | refine br_f y1 ?_ | refine br_t y2 ?_ | refine br_t hn ?_ | refine And.intro (by kernel_rfl) ?_ | refine And.intro (by decide) ?_
        show AV.t [.a (.i .u64 (IntKind.wrap .u64 (((b0 : Nat) : Int) + ((f.bld true 0 0 : Nat) : Int)))), .a (iA 1), .a (iA 0)] = _
        rw [sw]; rfl
    · cases hn : d.neg
      · repeat (conv => whnf); first | refine br_tt ?_ | refine br_ff ?_ | refine ⟨_, c1, ?_⟩ | refine ⟨_, c2, ?_⟩ | refine ⟨_, c3, ?_⟩ | refine ⟨_, c4, ?_⟩ | refine ⟨_, c5, ?_⟩ | refine ⟨_, c6, ?_⟩ | refine ⟨_, c7, ?_⟩ | refine ⟨_, c8, ?_⟩ | refine ⟨_, c9, ?_⟩ | refine ⟨_, d1, ?_⟩ | refine ⟨_, d2, ?_⟩ | refine ⟨_, d3, ?_⟩ | refine br_f z1 ?_ | refine br_f z2 ?_ | refine br_f z0 ?_ | refine br_f y1 ?_ | refine br_t y2 ?_ | refine br_f hn ?_ | refine And.intro (by kernel_rfl) ?_ | refine And.intro (by decide) ?_
        rfl
      · repeat (conv => whnf); first | refine br_tt ?_ | refine br_ff ?_ | refine ⟨_, c1, ?_⟩ | refine ⟨_, c2, ?_⟩ | refine ⟨_, c3, ?_⟩ | refine ⟨_, c4, ?_⟩ | refine ⟨_, c5, ?_⟩ | refine ⟨_, c6, ?_⟩ | refine ⟨_, c7, ?_⟩ | refine ⟨_, c8, ?_⟩ | refine ⟨_, c9, ?_⟩ | refine ⟨_, d1, ?_⟩ | refine ⟨_, d2, ?_⟩ | refine ⟨_, d3, ?_⟩ | refine br_f z1 ?_ | refine br_f z2 ?_ | refine br_f z0 ?_ | refine br_f y1 ?_ | refine br_t y2 ?_ | refine br_t hn ?_ | refine And.intro (by kernel_rfl) ?_ | refine And.intro (by decide) ?_
        show AV.t [.a (.i .u64 (IntKind.wrap .u64 (((b0 : Nat) : Int) + ((f.bld true 0 0 : Nat) : Int)))), .a (iA 3), .a (iA 0)] = _
        rw [sw]; rfl
end
end Go.Proofs.YtlaffgojgfdlnaaGreat.A
