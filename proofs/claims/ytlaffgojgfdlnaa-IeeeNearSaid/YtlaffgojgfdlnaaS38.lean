import Derived.Test.YtlaffgojgfdlnaaS37
set_option linter.unusedVariables false
set_option linter.unusedSimpArgs false
set_option linter.constructorNameAsVariable false
set_option linter.unusedSectionVars false
set_option maxRecDepth 100000
set_option maxHeartbeats 8000000
namespace Go.Proofs.Ytlaffgojgfdlnaa.A
open Go.RowKit Go.Proofs.Ytlaffgojgfdlnaa.P Go.Proofs.YtlaffgojgfdlnaaW.PrintWords Go.Proofs.YtlaffgojgfdlnaaW.PrintMore Go.Proofs.Ytlaffgojgfdlnaa.N Sk Dy
theorem near_calls {bits mode x y : Int} {K : Nat} (hK : slipsticklaw05_IeeeNear.f K bits mode x y = some true) : Snd Try.prog 3 [.a (iA bits), .a (iA mode), .a (.i .u64 x), .a (.i .u64 y)] (.a (.b true)) := by
  refine ⟨⟨_, Try.func3, by kernel_rfl, rfl⟩, fun w Pk vs hvs => ?_⟩
  match vs, hvs with
  | [v0, v1, v2, v3], ⟨h0, h1, h2, h3, _⟩ =>
    have h0 : v0 = .int .i64 bits := h0
    have h1 : v1 = .int .i64 mode := h1
    have h2 : v2 = .int .u64 x := h2
    have h3 : v3 = .int .u64 y := h3
    subst h0; subst h1; subst h2; subst h3
    refine (slipsticklaw05_IeeeNear.calls K bits mode x y true w hK).mono ?_
    rintro e w' ⟨rfl, hb⟩
    exact ⟨_, rfl, rfl, hb⟩
  | [], h => exact h.elim
  | [_], h => exact h.2.elim
  | [_, _], h => exact h.2.2.elim
  | [_, _, _], h => exact h.2.2.2.elim
  | _ :: _ :: _ :: _ :: _ :: _, h => exact h.2.2.2.2.elim
theorem cmp_f (k : Nat) {s t : Bool} {m n : Nat} {e g : Int} (hm : nlen m ≤ 31000) (hn : nlen n ≤ 31000) : dyad_Cmp.f k s (parts m) e t (parts n) g = some (Dy.cmp ⟨s, m, e⟩ ⟨t, n, g⟩) := by
  unfold dyad_Cmp.f; rw [nv_parts, nv_parts, if_pos ⟨rfl, hm, rfl, hn⟩]
section
variable {f : Fm} (h : f.ok)
include h
theorem neg_f {a : Nat} (ha : a < 2 ^ 64) : format_Form_Neg.f ((f.p + f.w : Nat) : Int) ((f.p : Nat) : Int) ((f.w : Nat) : Int) (a : Int) = some (f.sn a) := by
  unfold format_Form_Neg.f
  rw [if_pos ⟨by rcases h with rfl | rfl | rfl <;> simp, by omega, by omega⟩, Int.toNat_natCast, Int.toNat_natCast, Int.toNat_natCast]
theorem sub_f (m : Int) {a b : Nat} (ha : a < 2 ^ 64) (hb : b < 2 ^ 64) : ieee_Sub.f ((f.p + f.w : Nat) : Int) ((f.p : Nat) : Int) ((f.w : Nat) : Int) m (a : Int) (b : Int) = some (((f.subR m a b).1 : Int), (f.subR m a b).2.1, (f.subR m a b).2.2) := by
  unfold ieee_Sub.f
  rw [if_pos ⟨by rcases h with rfl | rfl | rfl <;> simp, ⟨by omega, by omega⟩, by omega, by omega⟩, Int.toNat_natCast, Int.toNat_natCast, Int.toNat_natCast, Int.toNat_natCast]
theorem finite_f2 {a b : Nat} (ha : a < 2 ^ 64) (hb : b < 2 ^ 64) : slipsticklaw05_finite.f 7 ((f.p + f.w : Nat) : Int) ((f.p : Nat) : Int) ((f.w : Nat) : Int) [(a : Int), (b : Int)] =
    some (if (f.val a).2 = 0 ∧ (f.val b).2 = 0 then ([⟨(f.val a).1.neg, parts (f.val a).1.n, (f.val a).1.e⟩, ⟨(f.val b).1.neg, parts (f.val b).1.n, (f.val b).1.e⟩], true) else ([], false)) := by
  have va := val_f h ha
  simp only [Int.natCast_add] at va
  have vb := val_f h hb
  simp only [Int.natCast_add] at vb
  by_cases c1 : (f.val a).2 = 0
  · by_cases c2 : (f.val b).2 = 0
    · simp [slipsticklaw05_finite.f, slipsticklaw05_finite.l0, Go.Proofs.YtlaffgojgfdlnaaW.PrintWords.rd, va, vb, c1, c2, w64_1, w64_2]
    · simp [slipsticklaw05_finite.f, slipsticklaw05_finite.l0, Go.Proofs.YtlaffgojgfdlnaaW.PrintWords.rd, va, vb, c1, c2, w64_1, w64_2]
  · simp [slipsticklaw05_finite.f, slipsticklaw05_finite.l0, Go.Proofs.YtlaffgojgfdlnaaW.PrintWords.rd, va, vb, c1]
end
theorem near_f (bits mode : Int) {a b : Nat} (ha : a < 2 ^ 64) (hb : b < 2 ^ 64) : slipsticklaw05_IeeeNear.f 8 bits mode a b = some true := by
  unfold slipsticklaw05_IeeeNear.f slipsticklaw05_awake.f format_Of.f
  cases hf : fmOf bits with
  | none => simp [slipsticklaw05_IeeeNear.j0]
  | some f =>
  obtain ⟨h, hbt⟩ := fmOf_ok hf
  by_cases m1 : mode < 0
  · simp [slipsticklaw05_IeeeNear.j0, m1]
  by_cases m2 : mode ≥ 5
  · simp [slipsticklaw05_IeeeNear.j0, m1, show 5 ≤ mode from m2]
  have hm : 0 ≤ mode ∧ mode < 5 := by omega
  have F1 := finite_f2 h ha hb
  have N1 := neg_f h ha
  have N2 := neg_f h hb
  have S1 := sub_f h mode ha hb
  have z2 : decide (mode ≥ 5) = false := decide_eq_false m2
  show (if mode < 0 then slipsticklaw05_IeeeNear.j0 8 mode (a : Int) (b : Int) true ((f.p + f.w : Nat) : Int) ((f.p : Nat) : Int) ((f.w : Nat) : Int) else slipsticklaw05_IeeeNear.j0 8 mode (a : Int) (b : Int) (decide (mode ≥ 5)) ((f.p + f.w : Nat) : Int) ((f.p : Nat) : Int) ((f.w : Nat) : Int)) = some true
  rw [if_neg m1, z2]
  by_cases hq : (f.val a).2 = 0 ∧ (f.val b).2 = 0
  case neg =>
    rw [if_neg hq] at F1
    generalize ((f.p + f.w : Nat) : Int) = p0 at *
    generalize ((f.p : Nat) : Int) = p1 at *
    generalize ((f.w : Nat) : Int) = p2 at *
    simp [slipsticklaw05_IeeeNear.j0, slipsticklaw05_IeeeNear.j1, F1]
  rw [if_pos hq] at F1
  obtain ⟨q1, q2⟩ := hq
  obtain ⟨la, ca⟩ := val_fin q1
  obtain ⟨lb, cb⟩ := val_fin q2
  by_cases hs : f.sn a = f.sn b
  case neg =>
    generalize ((f.p + f.w : Nat) : Int) = p0 at *
    generalize ((f.p : Nat) : Int) = p1 at *
    generalize ((f.w : Nat) : Int) = p2 at *
    simp [slipsticklaw05_IeeeNear.j0, slipsticklaw05_IeeeNear.j1, F1, N1, N2, hs]
  have ba := Fm.val_b h a
  have bb := Fm.val_b h b
  have C1 := cmp_f 6 (s := false) (t := false) (m := (f.val a).1.n) (n := (f.val b).1.n) (e := (f.val a).1.e + 1) (g := (f.val b).1.e) (by omega) (by omega)
  have C2 := cmp_f 6 (s := false) (t := false) (m := (f.val a).1.n) (n := (f.val b).1.n) (e := (f.val a).1.e) (g := (f.val b).1.e + 1) (by omega) (by omega)
  rw [Fm.near_cmp h la lb ca cb] at C1
  rw [Fm.near_cmp' h la lb ca cb] at C2
  have W1 : wrap64 ((f.val a).1.e + 1) = (f.val a).1.e + 1 := w64 (by omega) (by omega)
  have W2 : wrap64 ((f.val b).1.e + 1) = (f.val b).1.e + 1 := w64 (by omega) (by omega)
  have key : ¬ sI (2 * ((f.sz a : Nat) : Int) - ((f.sz b : Nat) : Int)) < 0 → ¬ sI (((f.sz a : Nat) : Int) - 2 * ((f.sz b : Nat) : Int)) > 0 → ∃ x, f.subR mode a b = (x, 0, 0) := by
    intro k1 k2
    have e1 : f.sz b ≤ 2 * f.sz a := by
      apply Classical.byContradiction; intro k
      apply k1; unfold sI; rw [if_pos (by omega)]; decide
    have e2 : f.sz a ≤ 2 * f.sz b := by
      apply Classical.byContradiction; intro k
      apply k2; unfold sI; rw [if_neg (by omega), if_neg (by omega)]; decide
    exact Fm.near h hm la lb ca cb hs e1 e2
  generalize sI (2 * ((f.sz a : Nat) : Int) - ((f.sz b : Nat) : Int)) = u at *
  generalize sI (((f.sz a : Nat) : Int) - 2 * ((f.sz b : Nat) : Int)) = v at *
  generalize ((f.p + f.w : Nat) : Int) = p0 at *
  generalize ((f.p : Nat) : Int) = p1 at *
  generalize ((f.w : Nat) : Int) = p2 at *
  by_cases k1 : u < 0
  · simp [slipsticklaw05_IeeeNear.j0, slipsticklaw05_IeeeNear.j1, slipsticklaw05_IeeeNear.j2, F1, N1, N2, hs, rd_T36, W1, W2, C1, C2, k1]
  by_cases k2 : v > 0
  · simp [slipsticklaw05_IeeeNear.j0, slipsticklaw05_IeeeNear.j1, slipsticklaw05_IeeeNear.j2, F1, N1, N2, hs, rd_T36, W1, W2, C1, C2, k1, k2]
  obtain ⟨x, hx⟩ := key k1 k2
  rw [hx] at S1
  have k2' : ¬ 0 < v := k2
  simp [slipsticklaw05_IeeeNear.j0, slipsticklaw05_IeeeNear.j1, slipsticklaw05_IeeeNear.j2, F1, N1, N2, hs, rd_T36, W1, W2, C1, C2, k1, k2', S1]
theorem ieeeNear_law (bits mode x y : Int) (hbits : (Lit.int .i64 bits).wf = true) (hmode : (Lit.int .i64 mode).wf = true) (hx : (Lit.int .u64 x).wf = true) (hy : (Lit.int .u64 y).wf = true) :
    Snd Try.prog 3 [.a (iA bits), .a (iA mode), .a (.i .u64 x), .a (.i .u64 y)] (.a (.b true)) := by
  obtain ⟨a, rfl, ha⟩ := u64_nat hx
  obtain ⟨b, rfl, hb⟩ := u64_nat hy
  exact near_calls (near_f bits mode ha hb)
end Go.Proofs.Ytlaffgojgfdlnaa.A
