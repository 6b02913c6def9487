/- Values of numbers with a sign and an exponent at a common place; what sums, products and comparisons do to them, for all numbers. -/
import Derived.Test.YtlaffgojgfdlnaaN20
import Derived.Test.YtlaffgojgfdlnaaPx0
set_option linter.unusedVariables false
namespace Go.Proofs.Ytlaffgojgfdlnaa.N
open Go.RowKit Go.Proofs.Ytlaffgojgfdlnaa.P Go.Proofs.YtlaffgojgfdlnaaW.PrintWords Go.Proofs.YtlaffgojgfdlnaaW.PrintMore Sk
open Dy
/-! ### Values: a number at a common place -/
def Dy.sv (a : Dy) (E : Int) : Int := if a.neg = true then -(a.dv E : Int) else a.dv E
/-- The number is x times 2 to the power of E (and reaches no lower, unless it is 0). -/
def Va (a : Dy) (E x : Int) : Prop := (a.n ≠ 0 → E ≤ a.e) ∧ a.sv E = x
theorem sv_zero {a : Dy} (h : a.n = 0) (E : Int) : a.sv E = 0 := by unfold Dy.sv; rw [dv_zero h]; split <;> rfl
theorem sv_ne {a : Dy} (h : a.n ≠ 0) (E : Int) : a.sv E ≠ 0 := by
  have := dv_ne h E
  unfold Dy.sv; split <;> omega
theorem Va.zero {a : Dy} (h : a.n = 0) (E : Int) : Va a E 0 := ⟨fun k => absurd h k, sv_zero h E⟩
theorem Va.at {a : Dy} {E x : Int} (h : Va a E x) : a.n = 0 ↔ x = 0 := by
  constructor
  · intro e; rw [← h.2, sv_zero e]
  · intro e; by_cases h0 : a.n = 0
    · exact h0
    · exact absurd (h.2.trans e) (sv_ne h0 E)
theorem Va.plain {a : Dy} {E x : Int} (h : Va a E x) : Va a.plain E x := by
  by_cases h0 : a.n = 0
  · rw [plain_zero h0]; have := (h.at).1 h0; subst this; exact Va.zero rfl E
  · have h1 := h.1 h0
    have h2 := plain_e_ge a h0
    refine ⟨fun _ => by omega, ?_⟩
    rw [← h.2]; unfold Dy.sv; rw [dv_plain h1, plain_neg h0]
theorem Va.turned {a : Dy} {E x : Int} (h : Va a E x) : Va (Dy.turned a) E (-x) := by
  refine ⟨h.1, ?_⟩
  rw [← h.2]; unfold Dy.sv Dy.turned Dy.dv; dsimp only
  cases a.neg <;> simp
theorem Va.sum {a b : Dy} {E x y : Int} (ha : Va a E x) (hb : Va b E y) (h0 : a.n ≠ 0) (h1 : b.n ≠ 0) : Va (Dy.sumAt a b E) E (x + y) := by
  have e : (Dy.sumAt a b E).e = E := by unfold Dy.sumAt; split <;> (try split) <;> rfl
  refine ⟨fun _ => by rw [e]; exact Int.le_refl _, ?_⟩
  rw [← ha.2, ← hb.2]
  unfold Dy.sv
  have d : (Dy.sumAt a b E).dv E = (Dy.sumAt a b E).n := by have := dv_self (Dy.sumAt a b E); rwa [e] at this
  rw [d]
  unfold Dy.sumAt
  by_cases hs : a.neg = b.neg
  · rw [if_pos hs]; dsimp only; rw [← hs]; split <;> omega
  · rw [if_neg hs]
    have hn : b.neg = !a.neg := by cases ha' : a.neg <;> cases hb' : b.neg <;> simp_all
    by_cases hl : b.dv E ≤ a.dv E
    · rw [if_pos hl]; dsimp only; rw [hn]; cases a.neg <;> simp <;> omega
    · rw [if_neg hl]; dsimp only; rw [hn]; cases a.neg <;> simp <;> omega
theorem Va.told {d : Dy} {E x : Int} (h : Va d E x) (hb : nlen x.natAbs ≤ 4096) (h0 : -8192 ≤ E) (h1 : E + nlen x.natAbs ≤ 8192) : ∃ r, Dy.told d = (r, 0) ∧ Va r E x ∧ r.may = true ∧ r.plain = r ∧ nlen r.n ≤ nlen x.natAbs := by
  have key : d.plain.may = true ∧ nlen d.plain.n ≤ nlen x.natAbs := by
    by_cases hz : d.n = 0
    · rw [plain_zero hz]; exact ⟨may_of (k := 0) (by show nlen 0 ≤ 0; rw [nlen_zero]; exact Nat.le_refl _) (by omega) (by show -8192 ≤ (0 : Int); omega) (by show (0 : Int) ≤ 8192; omega), by show nlen 0 ≤ _; rw [nlen_zero]; omega⟩
    · have hp := h.plain
      have hpn : d.plain.n ≠ 0 := fun e => hz (plain_n.1 e)
      have he := hp.1 hpn
      have hx : x.natAbs = d.plain.dv E := by rw [← hp.2]; unfold Dy.sv; split <;> omega
      have hl : nlen (d.plain.dv E) = nlen d.plain.n + (d.plain.e - E).toNat := nlen_mul_pow hpn _
      rw [hx] at hb h1 ⊢
      exact ⟨may_of (k := 4096) (by omega) (by omega) (by omega) (by omega), by omega⟩
  exact ⟨d.plain, told_may key.1, h.plain, key.1, plain_plain d, key.2⟩
theorem add_va {a b : Dy} {E x y : Int} (ma : a.may = true) (mb : b.may = true) (ha : Va a E x) (hb : Va b E y) (hl : nlen (x + y).natAbs ≤ 4096) (h0 : -8192 ≤ E) (h1 : E + nlen (x + y).natAbs ≤ 8192) :
    ∃ r, Dy.add a b = (r, 0) ∧ Va r E (x + y) ∧ r.may = true ∧ r.plain = r ∧ nlen r.n ≤ nlen (x + y).natAbs := by
  rw [show Dy.add a b = _ from if_pos ⟨ma, mb⟩]
  by_cases ha0 : a.n = 0
  · have := (ha.at).1 ha0; subst this
    rw [if_pos ha0]
    rw [Int.zero_add] at hl h1 ⊢
    exact hb.told hl h0 h1
  by_cases hb0 : b.n = 0
  · have := (hb.at).1 hb0; subst this
    rw [if_neg ha0, if_pos hb0]
    rw [Int.add_zero] at hl h1 ⊢
    exact ha.told hl h0 h1
  rw [if_neg ha0, if_neg hb0]
  have ea := ha.1 ha0
  have eb := hb.1 hb0
  rw [show Dy.told (Dy.sum a b) = Dy.told (Dy.sumAt a b E) from told_congr (by rw [sum_eq]; exact (sumAt_plain a b (E := E) (F := min a.e b.e) (by omega) (by omega) (by omega)).symm)]
  exact (ha.sum hb ha0 hb0).told hl h0 h1
/-- The sign of a whole number. -/
def sI (z : Int) : Int := if z < 0 then -1 else if z = 0 then 0 else 1
theorem sgn_va {a b : Dy} {E x y : Int} (ha : Va a E x) (hb : Va b E y) : Dy.sgn a b = sI (x - y) := by
  by_cases hz : a.n = 0 ∧ b.n = 0
  · rw [show Dy.sgn a b = 0 from if_pos hz, (ha.at).1 hz.1, (hb.at).1 hz.2]; rfl
  by_cases ha0 : a.n = 0
  · have hb0 : b.n ≠ 0 := fun e => hz ⟨ha0, e⟩
    have := (ha.at).1 ha0; subst this
    have hs : Dy.sgn a b = if b.neg = true then 1 else -1 := by unfold Dy.sgn; rw [if_neg hz, if_pos ha0]
    rw [hs, ← hb.2]
    have := dv_ne hb0 E
    unfold Dy.sv sI
    by_cases hn : b.neg = true
    · rw [if_pos hn, if_pos hn, if_neg (by omega), if_neg (by omega)]
    · rw [if_neg hn, if_neg hn, if_pos (by omega)]
  by_cases h2 : b.n = 0 ∨ a.neg ≠ b.neg
  · have hs : Dy.sgn a b = if a.neg = true then -1 else 1 := by unfold Dy.sgn; rw [if_neg hz, if_neg ha0, if_pos h2]
    rw [hs, ← ha.2, ← hb.2]
    have hda := dv_ne ha0 E
    have hy : (a.neg = true → 0 ≤ b.sv E) ∧ (a.neg = false → b.sv E ≤ 0) := by
      rcases h2 with h | h
      · rw [sv_zero h]; exact ⟨fun _ => Int.le_refl _, fun _ => Int.le_refl _⟩
      · unfold Dy.sv; cases hna : a.neg <;> cases hnb : b.neg <;> simp_all <;> omega
    unfold sI
    by_cases hn : a.neg = true
    · have h3 : a.sv E = -(a.dv E : Int) := if_pos hn
      have := hy.1 hn
      rw [if_pos hn, h3, if_pos (by omega)]
    · have h3 : a.sv E = (a.dv E : Int) := if_neg hn
      have := hy.2 (by simpa using hn)
      rw [if_neg hn, h3, if_neg (by omega), if_neg (by omega)]
  · have hb0 : b.n ≠ 0 := fun e => h2 (.inl e)
    have h3 : a.neg = b.neg := Classical.byContradiction fun e => h2 (.inr e)
    have ea := ha.1 ha0
    have eb := hb.1 hb0
    rw [sgn_main ha0 hb0 h3, ← sg_dv (E := E) (F := min a.e b.e) (by omega) (by omega) (by omega), ← ha.2, ← hb.2]
    unfold Dy.sv sI sg
    rw [← h3]
    by_cases hn : a.neg = true
    · simp only [if_pos hn]; split <;> (try split) <;> (try split) <;> (try split) <;> omega
    · simp only [if_neg hn]; split <;> (try split) <;> (try split) <;> (try split) <;> omega
theorem cmp_va {a b : Dy} {E x y : Int} (ma : a.may = true) (mb : b.may = true) (ha : Va a E x) (hb : Va b E y) : Dy.cmp a b = (sI (x - y), 0) := by
  rw [show Dy.cmp a b = _ from if_pos ⟨ma, mb⟩, sgn_va ha hb]
theorem va_of {a : Dy} {E : Int} (h : E ≤ a.e) : Va a E (a.sv E) := ⟨fun _ => h, rfl⟩
theorem sv_nlen {a : Dy} {E : Int} (h : E ≤ a.e) : nlen (a.sv E).natAbs ≤ nlen a.n + (a.e - E).toNat := by
  have : (a.sv E).natAbs = a.dv E := by unfold Dy.sv; split <;> omega
  rw [this]; exact dv_nlen a E
theorem nlen_addI (x y : Int) : nlen (x + y).natAbs ≤ max (nlen x.natAbs) (nlen y.natAbs) + 1 := by
  have h1 := nlen_mono (show (x + y).natAbs ≤ x.natAbs + y.natAbs by omega)
  have h2 := nlen_add_le x.natAbs y.natAbs
  omega
end Go.Proofs.Ytlaffgojgfdlnaa.N
