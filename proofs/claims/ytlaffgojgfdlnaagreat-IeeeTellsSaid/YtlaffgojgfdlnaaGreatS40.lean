/- The contracts of reference 4's even and Chosen, for all numbers that may be rounded. -/
import Derived.Test.YtlaffgojgfdlnaaGreatS31
import Derived.Test.YtlaffgojgfdlnaaGreatS27
import Derived.Test.YtlaffgojgfdlnaaGreatS12
import Derived.Test.YtlaffgojgfdlnaaGreatS17
import Derived.Test.YtlaffgojgfdlnaaGreatN54
set_option linter.unusedVariables false
set_option linter.unusedSimpArgs false
set_option linter.constructorNameAsVariable false
set_option linter.unusedSectionVars false
set_option maxRecDepth 100000
set_option maxHeartbeats 8000000
namespace Go.Proofs.YtlaffgojgfdlnaaGreat.A
open Go.RowKit Go.Proofs.YtlaffgojgfdlnaaGreat.P Go.Proofs.YtlaffgojgfdlnaaGreatW.PrintWords Go.Proofs.YtlaffgojgfdlnaaGreatW.PrintMore Go.Proofs.YtlaffgojgfdlnaaGreat.N Sk Dy
/-! ### Reference 4: rounded -/
theorem add_pp {N M : Nat} {P : Int} (hN : N < 2 ^ 60) (hM : M < 2 ^ 60) (h1 : -8192 ≤ P) (h2 : P ≤ 8100) : ∃ r, Dy.add (Dy.plain ⟨false, N, P⟩) (Dy.plain ⟨false, M, P⟩) = (r, 0) ∧ Va r P (((N + M : Nat)) : Int) ∧ r.may = true := by
  have vN : ∀ k : Nat, Va ⟨false, k, P⟩ P ((k : Nat) : Int) := fun k => by
    refine ⟨fun _ => Int.le_refl _, ?_⟩
    unfold Dy.sv; rw [if_neg (by simp), dv_self]
  have mp : ∀ k : Nat, k < 2 ^ 60 → (Dy.plain ⟨false, k, P⟩).may = true := fun k hk => by
    have nk := nlen_le_iff.2 hk
    by_cases z : k = 0
    · rw [plain_zero (a := ⟨false, k, P⟩) z]; exact zero_may
    · have g1 := plain_e_ge ⟨false, k, P⟩ z
      have g2 := top_plain (a := ⟨false, k, P⟩) z
      have g3 := plain_nlen_le ⟨false, k, P⟩
      have g4 := nlen_eq_zero (n := (Dy.plain ⟨false, k, P⟩).n)
      have g5 : (Dy.plain ⟨false, k, P⟩).n ≠ 0 := fun e => z (plain_n.1 e)
      dsimp only at g1 g2 g3
      exact may_of (k := 61) (by omega) (by omega) (by omega) (by omega)
  have n1 : nlen (N + M) ≤ 61 := nlen_le_iff.2 (by omega)
  have e1 : (((N : Nat) : Int) + ((M : Nat) : Int)).natAbs = N + M := by omega
  obtain ⟨r, er, vr, mr, pr, nr⟩ := add_va (mp N hN) (mp M hM) (vN N).plain (vN M).plain (by rw [e1]; omega) h1 (by rw [e1]; omega)
  exact ⟨r, er, by rw [Int.natCast_add]; exact vr, mr⟩
theorem tz_even {n : Nat} (h : n ≠ 0) : 0 < tz n ↔ n % 2 = 0 := by
  have := tz_mod h 1
  rw [Nat.pow_one] at this
  exact this.symm
theorem r4even_snd {N : Nat} {P : Int} (hN : N < 2 ^ 60) (h1 : -8192 ≤ P) (h2 : P ≤ 8100) : Snd Tryz.prog 109 [.g (eA (Dy.plain ⟨false, N, P⟩)), .a (iA P)] (.a (.b (decide (N % 2 = 0)))) := by
  have nN := nlen_le_iff.2 hN
  have g3 := plain_nlen_le ⟨false, N, P⟩
  have z0 := beq_blen (n := (Dy.plain ⟨false, N, P⟩).n)
  refine snd_of ttOk mixed Tryz.func109 Tryz.ntmps109 rfl (by kernel_rfl) rfl ?_
  by_cases z : N = 0
  · rw [decide_eq_true (plain_n.2 z)] at z0
    rw [decide_eq_true (by rw [z])]
    repeat (conv => whnf); first | refine br_tt ?_ | refine br_ff ?_ | refine br_t z0 ?_ | refine And.intro (by kernel_rfl) ?_ | refine And.intro (by decide) ?_
    rfl
  · rw [decide_eq_false (fun k => z (plain_n.1 k))] at z0
    have e1 : (Dy.plain ⟨false, N, P⟩).e = P + tz N := by rw [plain_pos (a := ⟨false, N, P⟩) z]
    have ht := tz_lt_nlen z
    dsimp only at g3
    have c1 := rplain_snd (d := Dy.plain ⟨false, N, P⟩) (by omega) (by omega)
    rw [plain_plain] at c1
    repeat (conv => whnf); first | refine br_tt ?_ | refine br_ff ?_ | refine ⟨_, c1, ?_⟩ | refine br_f z0 ?_ | refine And.intro (by kernel_rfl) ?_ | refine And.intro (by decide) ?_
    show AV.a (.b (decide ((Dy.plain ⟨false, N, P⟩).e > P))) = _
    have := tz_even z
    rw [e1, show decide (P + ((tz N : Nat) : Int) > P) = decide (N % 2 = 0) from decide_eq_decide.2 (by omega)]
section
variable {f : Fm} (h : f.ok)
include h
theorem r4chosen_snd {mode : Int} (hm : 0 ≤ mode ∧ mode < 5) {d : Dy} (hr : rmay d = true) (h0 : d.n ≠ 0) : Snd Tryz.prog 86 [.g (fmA f), .a (iA mode), .g (eA d)] (.g (eA (f.chosen mode d.plain))) := by
  have hB := Fm.bounds h
  obtain ⟨m1, m2, m3⟩ := rmay_iff.1 hr
  have b1 := may_iff.1 m1
  have b2 := may_iff.1 m2
  have q0 : d.plain.n ≠ 0 := fun z => h0 (plain_n.1 z)
  have qn := plain_neg h0
  have c1 := r4nb_snd h hr
  rw [if_neg h0, if_neg h0] at c1
  have c2 := rplain_snd (d := d) (by omega) (by omega)
  have c3 := r4place_snd h hr h0
  have m3 := m3.resolve_left h0
  have hch : ∀ v, f.ctu mode d.plain = v → f.chosen mode d.plain = Dy.plain ⟨false, f.ctn d.plain + (if v = true then 1 else 0), f.plc d.plain⟩ := fun v hv => by unfold Fm.chosen; rw [hv]
  generalize f.chosen mode d.plain = C at *
  generalize d.plain = q at *
  have pb := plc_b h m2
  have pt : f.plc q ≤ 8000 := by unfold Fm.plc; omega
  have lt := ctn_lt (f := f) q0
  have lt60 : f.ctn q < 2 ^ 59 := Nat.lt_of_lt_of_le lt (Nat.pow_le_pow_right (by omega) (by omega))
  obtain ⟨E, hE⟩ : ∃ E, E = min q.e f.low := ⟨_, rfl⟩
  obtain ⟨s, hs⟩ : ∃ s, s = (f.low - E).toNat := ⟨_, rfl⟩
  obtain ⟨x, hx⟩ : ∃ x, x = q.dv E := ⟨_, rfl⟩
  obtain ⟨k1, k2, k3, k4, k5⟩ := Fm.cut_eq (f := f) q0 (E := E) (by omega) (by omega) hx hs
  have hu : ∀ v, ups mode q.neg (kp f.p s x) x = v → f.ctu mode q = v := fun v hv => by rw [← hv]; unfold ups Fm.ctu; rw [k2, k3, k4]
  have hi := inex_iff (k := kp f.p s x) (x := x)
  rw [← k3, ← k4] at hi
  have dm := Nat.div_add_mod' x (2 ^ kp f.p s x)
  have ml := Nat.mod_lt x (Nat.two_pow_pos (kp f.p s x))
  have ui := @ups_iff mode q.neg (kp f.p s x) x
  rw [← k2] at dm ui
  have kg := kp_ge f.p s x
  have hPE : (f.plc q - E).toNat = kp f.p s x := by omega
  have hEP : E ≤ f.plc q := by omega
  generalize kp f.p s x = k at *
  generalize hrr : x % 2 ^ k = rr at *
  have hk := Nat.two_pow_pos k
  have c4 := r4size_snd q
  have w1 : IntKind.wrap .i64 (q.e + 1) = q.e + 1 := wI (by omega) (by omega)
  have n1 : nlen q.n > 0 := by have := nlen_eq_zero (n := q.n); omega
  have mt : (⟨false, q.n, q.e + 1⟩ : Dy).may = true := may_of (k := 4096) (by dsimp only; omega) (by omega) (by dsimp only; omega) (by dsimp only; omega)
  have vt : Va ⟨false, q.n, q.e + 1⟩ E ((2 * x : Nat) : Int) := by
    refine ⟨fun _ => by dsimp only; omega, ?_⟩
    unfold Dy.sv; rw [if_neg (by simp), hx]; unfold Dy.dv; dsimp only
    rw [show (q.e + 1 - E).toNat = (q.e - E).toNat + 1 by omega, Nat.pow_succ]
    congr 1
    rw [Nat.mul_comm 2, Nat.mul_assoc]
  have hpl : f.plc q ≤ 8100 := by omega
  have c9 := r4even_snd (N := f.ctn q) (P := f.plc q) (by omega) (by omega) hpl
  refine snd_of ttOk mixed Tryz.func86 Tryz.ntmps86 rfl (by kernel_rfl) rfl ?_
  by_cases h00 : rr = 0
  · have hib : (N.hf (f.kr q) q.n || ls (f.kr q) q.n) = false := by
      cases hb : (N.hf (f.kr q) q.n || ls (f.kr q) q.n) with
      | false => rfl
      | true => exact absurd h00 (hi.1 hb)
    rw [hib] at c1
    have cf : f.ctu mode q = false := hu _ (by
      cases hb : ups mode q.neg k x with
      | false => rfl
      | true => have := ui.1 hb; omega)
    have hC := hch false cf
    rw [← hC] at c1
    rw [show Dy.plain ⟨false, f.ctn q, f.plc q⟩ = C from hC.symm] at c1 c9
    obtain ⟨r, er, vr, mr⟩ := add_pp (N := f.ctn q) (M := f.ctn q) (P := f.plc q) (by omega) (by omega) (by omega) hpl
    rw [show Dy.plain ⟨false, f.ctn q, f.plc q⟩ = C from hC.symm] at er
    have c5 := radd2_snd C C
    rw [er] at c5
    have c6 := rcmp2_snd ⟨false, q.n, q.e + 1⟩ r
    have vr2 := vr.down hEP
    rw [hPE, ← Int.natCast_mul] at vr2
    rw [cmp_va mt mr vt vr2] at c6
    have e0 : ((2 * x : Nat) : Int) - (((f.ctn q + f.ctn q) * 2 ^ k : Nat) : Int) = 0 := by
      rw [Nat.add_mul]; omega
    rw [e0, show sI 0 = 0 from rfl, ← w1] at c6
    by_cases p0 : mode = 0
    · subst p0
      cases hev : decide (f.ctn q % 2 = 0)
      all_goals
        rw [hev] at c9
        repeat (conv => whnf); first | refine br_tt ?_ | refine br_ff ?_ | refine ⟨_, c1, ?_⟩ | refine ⟨_, c2, ?_⟩ | refine ⟨_, c3, ?_⟩ | refine ⟨_, c4, ?_⟩ | refine ⟨_, c5, ?_⟩ | refine ⟨_, c6, ?_⟩ | refine ⟨_, c9, ?_⟩ | refine And.intro (by kernel_rfl) ?_ | refine And.intro (by decide) ?_
        rfl
    have y0 : (mode == 0) = false := by rw [beq_eq_false_iff_ne]; exact p0
    by_cases p2 : mode = 2
    · subst p2
      cases hn : d.neg
      all_goals
        repeat (conv => whnf); first | refine br_tt ?_ | refine br_ff ?_ | refine ⟨_, c1, ?_⟩ | refine ⟨_, c2, ?_⟩ | refine ⟨_, c3, ?_⟩ | refine ⟨_, c4, ?_⟩ | refine ⟨_, c5, ?_⟩ | refine ⟨_, c6, ?_⟩ | refine br_t hn ?_ | refine br_f hn ?_ | refine And.intro (by kernel_rfl) ?_ | refine And.intro (by decide) ?_
        rfl
    have y2 : (mode == 2) = false := by rw [beq_eq_false_iff_ne]; exact p2
    by_cases p3 : mode = 3
    · subst p3
      cases hn : d.neg
      · have hn' : (!d.neg) = true := by rw [hn]; rfl
        repeat (conv => whnf); first | refine br_tt ?_ | refine br_ff ?_ | refine ⟨_, c1, ?_⟩ | refine ⟨_, c2, ?_⟩ | refine ⟨_, c3, ?_⟩ | refine ⟨_, c4, ?_⟩ | refine ⟨_, c5, ?_⟩ | refine ⟨_, c6, ?_⟩ | refine br_t hn' ?_ | refine And.intro (by kernel_rfl) ?_ | refine And.intro (by decide) ?_
        rfl
      · have hn' : (!d.neg) = false := by rw [hn]; rfl
        repeat (conv => whnf); first | refine br_tt ?_ | refine br_ff ?_ | refine ⟨_, c1, ?_⟩ | refine ⟨_, c2, ?_⟩ | refine ⟨_, c3, ?_⟩ | refine ⟨_, c4, ?_⟩ | refine ⟨_, c5, ?_⟩ | refine ⟨_, c6, ?_⟩ | refine br_f hn' ?_ | refine And.intro (by kernel_rfl) ?_ | refine And.intro (by decide) ?_
        rfl
    have y3 : (mode == 3) = false := by rw [beq_eq_false_iff_ne]; exact p3
    by_cases p4 : mode = 4
    · subst p4
      repeat (conv => whnf); first | refine br_tt ?_ | refine br_ff ?_ | refine ⟨_, c1, ?_⟩ | refine ⟨_, c2, ?_⟩ | refine ⟨_, c3, ?_⟩ | refine ⟨_, c4, ?_⟩ | refine ⟨_, c5, ?_⟩ | refine ⟨_, c6, ?_⟩ | refine And.intro (by kernel_rfl) ?_ | refine And.intro (by decide) ?_
      rfl
    have y4 : (mode == 4) = false := by rw [beq_eq_false_iff_ne]; exact p4
    repeat (conv => whnf); first | refine br_tt ?_ | refine br_ff ?_ | refine ⟨_, c1, ?_⟩ | refine ⟨_, c2, ?_⟩ | refine ⟨_, c3, ?_⟩ | refine ⟨_, c4, ?_⟩ | refine ⟨_, c5, ?_⟩ | refine ⟨_, c6, ?_⟩ | refine br_f y0 ?_ | refine br_f y2 ?_ | refine br_f y3 ?_ | refine br_f y4 ?_ | refine And.intro (by kernel_rfl) ?_ | refine And.intro (by decide) ?_
    rfl
  · have hib : (N.hf (f.kr q) q.n || ls (f.kr q) q.n) = true := hi.2 h00
    rw [hib, if_pos rfl] at c1
    obtain ⟨r, er, vr, mr⟩ := add_pp (N := f.ctn q) (M := f.ctn q + 1) (P := f.plc q) (by omega) (by omega) (by omega) hpl
    have c5 := radd2_snd (Dy.plain ⟨false, f.ctn q, f.plc q⟩) (Dy.plain ⟨false, f.ctn q + 1, f.plc q⟩)
    rw [er] at c5
    have c6 := rcmp2_snd ⟨false, q.n, q.e + 1⟩ r
    have vr2 := vr.down hEP
    rw [hPE, ← Int.natCast_mul] at vr2
    rw [cmp_va mt mr vt vr2] at c6
    have e0 : ((2 * x : Nat) : Int) - (((f.ctn q + (f.ctn q + 1)) * 2 ^ k : Nat) : Int) = ((2 * rr : Nat) : Int) - ((2 ^ k : Nat) : Int) := by
      rw [Nat.add_mul, Nat.add_mul, Nat.one_mul]; omega
    rw [e0, ← w1] at c6
    have hCt := fun v => hch true v
    have hCf := fun v => hch false v
    have tri : (sI (((2 * rr : Nat) : Int) - ((2 ^ k : Nat) : Int)) = 1 ∧ 2 ^ k < 2 * rr) ∨ (sI (((2 * rr : Nat) : Int) - ((2 ^ k : Nat) : Int)) = 0 ∧ 2 ^ k = 2 * rr) ∨ (sI (((2 * rr : Nat) : Int) - ((2 ^ k : Nat) : Int)) = -1 ∧ 2 * rr < 2 ^ k) := by
      unfold sI; split
      · exact .inr (.inr ⟨rfl, by omega⟩)
      · split
        · exact .inr (.inl ⟨rfl, by omega⟩)
        · exact .inl ⟨rfl, by omega⟩
    have upT : (∃ _ : True, ups mode q.neg k x = true) → C = Dy.plain ⟨false, f.ctn q + 1, f.plc q⟩ := fun ⟨_, e⟩ => hCt (hu _ e)
    have upF : ¬ (ups mode q.neg k x = true) → C = Dy.plain ⟨false, f.ctn q, f.plc q⟩ := fun e => hCf (hu _ (by rw [Bool.not_eq_true] at e; exact e))
    by_cases p0 : mode = 0
    · subst p0
      rcases tri with ⟨t1, t2⟩ | ⟨t1, t2⟩ | ⟨t1, t2⟩
      · rw [t1] at c6
        rw [upT ⟨trivial, ui.2 (by omega)⟩]
        repeat (conv => whnf); first | refine br_tt ?_ | refine br_ff ?_ | refine ⟨_, c1, ?_⟩ | refine ⟨_, c2, ?_⟩ | refine ⟨_, c3, ?_⟩ | refine ⟨_, c4, ?_⟩ | refine ⟨_, c5, ?_⟩ | refine ⟨_, c6, ?_⟩ | refine ⟨_, c9, ?_⟩ | refine And.intro (by kernel_rfl) ?_ | refine And.intro (by decide) ?_
        rfl
      · rw [t1] at c6
        by_cases hev : f.ctn q % 2 = 0
        · rw [decide_eq_true hev] at c9
          rw [upF (fun e => by have := ui.1 e; omega)]
          repeat (conv => whnf); first | refine br_tt ?_ | refine br_ff ?_ | refine ⟨_, c1, ?_⟩ | refine ⟨_, c2, ?_⟩ | refine ⟨_, c3, ?_⟩ | refine ⟨_, c4, ?_⟩ | refine ⟨_, c5, ?_⟩ | refine ⟨_, c6, ?_⟩ | refine ⟨_, c9, ?_⟩ | refine And.intro (by kernel_rfl) ?_ | refine And.intro (by decide) ?_
          rfl
        · rw [decide_eq_false hev] at c9
          rw [upT ⟨trivial, ui.2 (by omega)⟩]
          repeat (conv => whnf); first | refine br_tt ?_ | refine br_ff ?_ | refine ⟨_, c1, ?_⟩ | refine ⟨_, c2, ?_⟩ | refine ⟨_, c3, ?_⟩ | refine ⟨_, c4, ?_⟩ | refine ⟨_, c5, ?_⟩ | refine ⟨_, c6, ?_⟩ | refine ⟨_, c9, ?_⟩ | refine And.intro (by kernel_rfl) ?_ | refine And.intro (by decide) ?_
          rfl
      · rw [t1] at c6
        rw [upF (fun e => by have := ui.1 e; omega)]
        repeat (conv => whnf); first | refine br_tt ?_ | refine br_ff ?_ | refine ⟨_, c1, ?_⟩ | refine ⟨_, c2, ?_⟩ | refine ⟨_, c3, ?_⟩ | refine ⟨_, c4, ?_⟩ | refine ⟨_, c5, ?_⟩ | refine ⟨_, c6, ?_⟩ | refine ⟨_, c9, ?_⟩ | refine And.intro (by kernel_rfl) ?_ | refine And.intro (by decide) ?_
        rfl
    have y0 : (mode == 0) = false := by rw [beq_eq_false_iff_ne]; exact p0
    by_cases p2 : mode = 2
    · subst p2
      cases hn : d.neg
      · rw [upF (fun e => by have := ui.1 e; rw [qn, hn] at this; simp at this)]
        repeat (conv => whnf); first | refine br_tt ?_ | refine br_ff ?_ | refine ⟨_, c1, ?_⟩ | refine ⟨_, c2, ?_⟩ | refine ⟨_, c3, ?_⟩ | refine ⟨_, c4, ?_⟩ | refine ⟨_, c5, ?_⟩ | refine ⟨_, c6, ?_⟩ | refine br_f hn ?_ | refine And.intro (by kernel_rfl) ?_ | refine And.intro (by decide) ?_
        rfl
      · rw [upT ⟨trivial, ui.2 (.inr (.inr (.inl ⟨rfl, by rw [qn, hn], h00⟩)))⟩]
        repeat (conv => whnf); first | refine br_tt ?_ | refine br_ff ?_ | refine ⟨_, c1, ?_⟩ | refine ⟨_, c2, ?_⟩ | refine ⟨_, c3, ?_⟩ | refine ⟨_, c4, ?_⟩ | refine ⟨_, c5, ?_⟩ | refine ⟨_, c6, ?_⟩ | refine br_t hn ?_ | refine And.intro (by kernel_rfl) ?_ | refine And.intro (by decide) ?_
        rfl
    have y2 : (mode == 2) = false := by rw [beq_eq_false_iff_ne]; exact p2
    by_cases p3 : mode = 3
    · subst p3
      cases hn : d.neg
      · have hn' : (!d.neg) = true := by rw [hn]; rfl
        rw [upT ⟨trivial, ui.2 (.inr (.inr (.inr ⟨rfl, by rw [qn, hn], h00⟩)))⟩]
        repeat (conv => whnf); first | refine br_tt ?_ | refine br_ff ?_ | refine ⟨_, c1, ?_⟩ | refine ⟨_, c2, ?_⟩ | refine ⟨_, c3, ?_⟩ | refine ⟨_, c4, ?_⟩ | refine ⟨_, c5, ?_⟩ | refine ⟨_, c6, ?_⟩ | refine br_t hn' ?_ | refine And.intro (by kernel_rfl) ?_ | refine And.intro (by decide) ?_
        rfl
      · have hn' : (!d.neg) = false := by rw [hn]; rfl
        rw [upF (fun e => by have := ui.1 e; rw [qn, hn] at this; simp at this)]
        repeat (conv => whnf); first | refine br_tt ?_ | refine br_ff ?_ | refine ⟨_, c1, ?_⟩ | refine ⟨_, c2, ?_⟩ | refine ⟨_, c3, ?_⟩ | refine ⟨_, c4, ?_⟩ | refine ⟨_, c5, ?_⟩ | refine ⟨_, c6, ?_⟩ | refine br_f hn' ?_ | refine And.intro (by kernel_rfl) ?_ | refine And.intro (by decide) ?_
        rfl
    have y3 : (mode == 3) = false := by rw [beq_eq_false_iff_ne]; exact p3
    by_cases p4 : mode = 4
    · subst p4
      rcases tri with ⟨t1, t2⟩ | ⟨t1, t2⟩ | ⟨t1, t2⟩
      · rw [t1] at c6
        rw [upT ⟨trivial, ui.2 (by omega)⟩]
        repeat (conv => whnf); first | refine br_tt ?_ | refine br_ff ?_ | refine ⟨_, c1, ?_⟩ | refine ⟨_, c2, ?_⟩ | refine ⟨_, c3, ?_⟩ | refine ⟨_, c4, ?_⟩ | refine ⟨_, c5, ?_⟩ | refine ⟨_, c6, ?_⟩ | refine And.intro (by kernel_rfl) ?_ | refine And.intro (by decide) ?_
        rfl
      · rw [t1] at c6
        rw [upT ⟨trivial, ui.2 (by omega)⟩]
        repeat (conv => whnf); first | refine br_tt ?_ | refine br_ff ?_ | refine ⟨_, c1, ?_⟩ | refine ⟨_, c2, ?_⟩ | refine ⟨_, c3, ?_⟩ | refine ⟨_, c4, ?_⟩ | refine ⟨_, c5, ?_⟩ | refine ⟨_, c6, ?_⟩ | refine And.intro (by kernel_rfl) ?_ | refine And.intro (by decide) ?_
        rfl
      · rw [t1] at c6
        rw [upF (fun e => by have := ui.1 e; omega)]
        repeat (conv => whnf); first | refine br_tt ?_ | refine br_ff ?_ | refine ⟨_, c1, ?_⟩ | refine ⟨_, c2, ?_⟩ | refine ⟨_, c3, ?_⟩ | refine ⟨_, c4, ?_⟩ | refine ⟨_, c5, ?_⟩ | refine ⟨_, c6, ?_⟩ | refine And.intro (by kernel_rfl) ?_ | refine And.intro (by decide) ?_
        rfl
    have y4 : (mode == 4) = false := by rw [beq_eq_false_iff_ne]; exact p4
    rw [upF (fun e => by have := ui.1 e; omega)]
    repeat (conv => whnf); first | refine br_tt ?_ | refine br_ff ?_ | refine ⟨_, c1, ?_⟩ | refine ⟨_, c2, ?_⟩ | refine ⟨_, c3, ?_⟩ | refine ⟨_, c4, ?_⟩ | refine ⟨_, c5, ?_⟩ | refine ⟨_, c6, ?_⟩ | refine br_f y0 ?_ | refine br_f y2 ?_ | refine br_f y3 ?_ | refine br_f y4 ?_ | refine And.intro (by kernel_rfl) ?_ | refine And.intro (by decide) ?_
    rfl
end
end Go.Proofs.YtlaffgojgfdlnaaGreat.A
