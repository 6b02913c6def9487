/- Numbers with a sign and an exponent: sums, products, plain forms, comparisons and roundings towards 0, for all numbers. -/
import Derived.Test.YtlaffgojgfdlnaaN7
import Derived.Test.YtlaffgojgfdlnaaPx1
import Derived.Test.YtlaffgojgfdlnaaPx2
import Derived.Test.YtlaffgojgfdlnaaPx3
import Derived.Test.YtlaffgojgfdlnaaPx0
set_option linter.unusedVariables false
namespace Go.Proofs.Ytlaffgojgfdlnaa.N
open Go.RowKit Go.Proofs.Ytlaffgojgfdlnaa.P Go.Proofs.YtlaffgojgfdlnaaW.PrintWords Go.Proofs.YtlaffgojgfdlnaaW.PrintMore Sk

/-! ### Dyads: a sign, a size, an exponent -/
structure Dy where
  neg : Bool
  n : Nat
  e : Int
deriving DecidableEq

namespace Dy
def zero : Dy := ⟨false, 0, 0⟩
def may (a : Dy) : Bool := decide (nlen a.n ≤ 4096) && (decide (-8192 ≤ a.e) && decide (a.e ≤ 8192))
/-- The plain form (the exponent is a whole number of any size). -/
def plain (a : Dy) : Dy := if a.n = 0 then zero else ⟨a.neg, a.n / 2 ^ tz a.n, a.e + tz a.n⟩
def told (a : Dy) : Dy × Int := if a.plain.may then (a.plain, 0) else (zero, 6)
def turned (a : Dy) : Dy := ⟨!a.neg, a.n, a.e⟩
/-- The sum, of one exponent. -/
def sum (a b : Dy) : Dy :=
  let e := min a.e b.e
  let x := a.n * 2 ^ (a.e - e).toNat
  let y := b.n * 2 ^ (b.e - e).toNat
  if a.neg = b.neg then ⟨a.neg, x + y, e⟩ else if y ≤ x then ⟨a.neg, x - y, e⟩ else ⟨b.neg, y - x, e⟩
def add (a b : Dy) : Dy × Int := if a.may = true ∧ b.may = true then told (if a.n = 0 then b else if b.n = 0 then a else sum a b) else (zero, 3)
def mul (a b : Dy) : Dy × Int := if a.may = true ∧ b.may = true then told ⟨a.neg != b.neg, a.n * b.n, a.e + b.e⟩ else (zero, 3)
/-- -1, 0, 1. -/
def sgn (a b : Dy) : Int :=
  if a.n = 0 ∧ b.n = 0 then 0 else if a.n = 0 then (if b.neg then 1 else -1) else if b.n = 0 ∨ a.neg ≠ b.neg then (if a.neg then -1 else 1)
  else
    let e := min a.e b.e
    let c := sg (a.n * 2 ^ (a.e - e).toNat) (b.n * 2 ^ (b.e - e).toNat)
    if a.neg then -c else c
def cmp (a b : Dy) : Int × Int := if a.may = true ∧ b.may = true then (sgn a b, 0) else (0, 3)
def top (a : Dy) : Int × Int := if a.may = true then (if a.n = 0 then (0, 1) else (a.e + nlen a.n - 1, 0)) else (0, 3)
def same (a b : Dy) : Bool := decide ((cmp a b).1 = 0) && decide ((cmp a b).2 = 0)
def floor (a : Dy) (at_ : Int) : Dy × Bool × Int :=
  if a.may = true then (if -8192 ≤ at_ ∧ at_ ≤ 8192 then (if at_ ≤ a.e then (a.plain, false, 0) else (plain ⟨a.neg, a.n / 2 ^ (at_ - a.e).toNat, at_⟩, decide (a.n % 2 ^ (at_ - a.e).toNat ≠ 0), 0)) else (zero, false, 1)) else (zero, false, 3)
def of (n : Int) : Dy := plain ⟨decide (n < 0), n.natAbs, 0⟩
end Dy

theorem tz_div {n : Nat} (h : n ≠ 0) : n / 2 ^ tz n % 2 = 1 := by
  obtain ⟨m, e, hm⟩ := tz_split h
  have h2 : n / 2 ^ tz n = m := by
    conv => lhs; arg 1; rw [e]
    exact Nat.mul_div_cancel_left m (Nat.two_pow_pos _)
  rw [h2]; exact hm
theorem tz_mul_div {n : Nat} (h : n ≠ 0) : n / 2 ^ tz n * 2 ^ tz n = n := Nat.div_mul_cancel (Nat.dvd_of_mod_eq_zero ((tz_mod h _).2 (Nat.le_refl _)))
theorem plain_pos {a : Dy} (h : a.n ≠ 0) : a.plain = ⟨a.neg, a.n / 2 ^ tz a.n, a.e + tz a.n⟩ := by unfold Dy.plain; rw [if_neg h]
theorem plain_zero {a : Dy} (h : a.n = 0) : a.plain = Dy.zero := by unfold Dy.plain; rw [if_pos h]
theorem plain_n {a : Dy} : a.plain.n = 0 ↔ a.n = 0 := by
  by_cases h : a.n = 0
  · rw [plain_zero h]; simp [h, Dy.zero]
  · rw [plain_pos h]
    have := tz_div h
    simp only [h, iff_false]; intro e; rw [e] at this; simp at this
theorem plain_odd {a : Dy} (h : a.n ≠ 0) : a.plain.n % 2 = 1 := by rw [plain_pos h]; exact tz_div h
theorem plain_plain (a : Dy) : a.plain.plain = a.plain := by
  by_cases h : a.n = 0
  · rw [plain_zero h]; rfl
  · have h2 : a.plain.n ≠ 0 := fun e => h (plain_n.1 e)
    rw [plain_pos h2, tz_odd (plain_odd h)]; simp
theorem plain_nlen {a : Dy} (h : a.n ≠ 0) : nlen a.plain.n + tz a.n = nlen a.n := by
  rw [plain_pos h]; dsimp only
  rw [nlen_div_pow]; have := tz_lt_nlen h; omega

/-! the program's -/
structure Sm (l : List Int) : Prop where
  ok : Ok l
  len : l.length ≤ 1000
theorem Sm.nlen {l : List Int} (h : Sm l) : nlen (nv l) ≤ 32000 := by have := nlen_nv h.ok; have := h.len; omega
theorem sm_parts {n : Nat} (h : nlen n ≤ 31000) : Sm (parts n) := ⟨Ok_parts n, by have := plen' h; omega⟩
/-- An exponent that doesn't wrap round, with room. -/
def Ex (e : Int) : Prop := -9223372036854775808 ≤ e ∧ e < 9223372036854775808
def Exs (e : Int) : Prop := -100000 ≤ e ∧ e ≤ 100000


namespace Dy
/-- A number's size, counted in 2^E. -/
def dv (a : Dy) (E : Int) : Nat := a.n * 2 ^ (a.e - E).toNat
def sumAt (a b : Dy) (E : Int) : Dy :=
  if a.neg = b.neg then ⟨a.neg, a.dv E + b.dv E, E⟩ else if b.dv E ≤ a.dv E then ⟨a.neg, a.dv E - b.dv E, E⟩ else ⟨b.neg, b.dv E - a.dv E, E⟩
theorem sum_eq (a b : Dy) : sum a b = sumAt a b (min a.e b.e) := rfl
end Dy
open Dy

theorem tz_mul_pow {n : Nat} (h : n ≠ 0) (k : Nat) : tz (n * 2 ^ k) = tz n + k := by rw [Nat.mul_comm, tz_pow_mul h, Nat.add_comm]
theorem mul_pow_ne {n : Nat} (h : n ≠ 0) (k : Nat) : n * 2 ^ k ≠ 0 := Nat.mul_ne_zero h (Nat.ne_of_gt (Nat.two_pow_pos k))
theorem odd_part {n : Nat} (h : n ≠ 0) (k : Nat) : n * 2 ^ k / 2 ^ tz (n * 2 ^ k) = n / 2 ^ tz n := by
  rw [tz_mul_pow h, Nat.pow_add, Nat.mul_div_mul_right _ _ (Nat.two_pow_pos k)]
theorem dv_ne {a : Dy} (h : a.n ≠ 0) (E : Int) : a.dv E ≠ 0 := mul_pow_ne h _
theorem dv_zero {a : Dy} (h : a.n = 0) (E : Int) : a.dv E = 0 := by unfold Dy.dv; rw [h, Nat.zero_mul]
theorem dv_n {a : Dy} {E : Int} : a.dv E = 0 ↔ a.n = 0 := ⟨fun e => Classical.byContradiction fun h => dv_ne h E e, fun e => dv_zero e E⟩
theorem dv_down {a : Dy} {E F : Int} (h : E ≤ F) (hF : F ≤ a.e) : a.dv E = a.dv F * 2 ^ (F - E).toNat := by
  unfold Dy.dv; rw [Nat.mul_assoc, ← Nat.pow_add]; congr 2; omega
theorem dv_self (a : Dy) : a.dv a.e = a.n := by unfold Dy.dv; rw [Int.sub_self]; simp
theorem dv_plain {a : Dy} {E : Int} (h : E ≤ a.e) : a.plain.dv E = a.dv E := by
  by_cases h0 : a.n = 0
  · rw [dv_zero h0, dv_zero (plain_n.2 h0)]
  · rw [plain_pos h0]; unfold Dy.dv; dsimp only
    rw [show (a.e + (tz a.n : Int) - E).toNat = tz a.n + (a.e - E).toNat by omega, Nat.pow_add, ← Nat.mul_assoc, tz_mul_div h0]
theorem plain_e_ge (a : Dy) (h : a.n ≠ 0) : a.e ≤ a.plain.e := by rw [plain_pos h]; dsimp only; omega
theorem plain_neg {a : Dy} (h : a.n ≠ 0) : a.plain.neg = a.neg := by rw [plain_pos h]
theorem plain_congr {a b : Dy} {E : Int} (ha : E ≤ a.e) (hb : E ≤ b.e) (hn : a.neg = b.neg) (hv : a.dv E = b.dv E) : a.plain = b.plain := by
  by_cases h0 : a.n = 0
  · have h1 : b.n = 0 := by rw [← dv_n (E := E), ← hv, dv_zero h0]
    rw [plain_zero h0, plain_zero h1]
  · have h1 : b.n ≠ 0 := by rw [Ne, ← dv_n (E := E), ← hv, dv_n]; exact h0
    rw [plain_pos h0, plain_pos h1, hn]
    have ea := tz_mul_pow h0 (a.e - E).toNat
    have eb := tz_mul_pow h1 (b.e - E).toNat
    have pa := odd_part h0 (a.e - E).toNat
    have pb := odd_part h1 (b.e - E).toNat
    change tz (a.dv E) = _ at ea
    change tz (b.dv E) = _ at eb
    change a.dv E / 2 ^ tz (a.dv E) = _ at pa
    change b.dv E / 2 ^ tz (b.dv E) = _ at pb
    rw [← pa, ← pb, hv]
    congr 1
    rw [hv] at ea
    omega
theorem sumAt_plain (a b : Dy) {E F : Int} (h : E ≤ F) (ha : F ≤ a.e) (hb : F ≤ b.e) : (sumAt a b E).plain = (sumAt a b F).plain := by
  unfold Dy.sumAt
  rw [dv_down h ha, dv_down h hb]
  have hp := Nat.two_pow_pos (F - E).toNat
  by_cases h1 : a.neg = b.neg
  · rw [if_pos h1, if_pos h1]
    refine plain_congr (E := E) (Int.le_refl _) h rfl ?_
    unfold Dy.dv; dsimp only; rw [Int.sub_self]; simp only [Int.toNat_zero, Nat.pow_zero, Nat.mul_one, Nat.add_mul]
  · rw [if_neg h1, if_neg h1]
    by_cases h2 : b.dv F ≤ a.dv F
    · rw [if_pos h2, if_pos (Nat.mul_le_mul_right _ h2)]
      refine plain_congr (E := E) (Int.le_refl _) h rfl ?_
      unfold Dy.dv; dsimp only; rw [Int.sub_self]; simp only [Int.toNat_zero, Nat.pow_zero, Nat.mul_one, Nat.sub_mul]
    · rw [if_neg h2, if_neg (fun h3 => h2 (Nat.le_of_mul_le_mul_right h3 hp))]
      refine plain_congr (E := E) (Int.le_refl _) h rfl ?_
      unfold Dy.dv; dsimp only; rw [Int.sub_self]; simp only [Int.toNat_zero, Nat.pow_zero, Nat.mul_one, Nat.sub_mul]
theorem sumAt_congr {a b a' b' : Dy} {E : Int} (ha : a.neg = a'.neg) (hb : b.neg = b'.neg) (va : a.dv E = a'.dv E) (vb : b.dv E = b'.dv E) : sumAt a b E = sumAt a' b' E := by
  unfold Dy.sumAt; rw [ha, hb, va, vb]
/-- The sum of the plain forms is the sum. -/
theorem sum_plain {a b : Dy} (ha : a.n ≠ 0) (hb : b.n ≠ 0) : (sum a.plain b.plain).plain = (sum a b).plain := by
  have h1 := plain_e_ge a ha
  have h2 := plain_e_ge b hb
  rw [sum_eq, sum_eq, ← sumAt_plain a.plain b.plain (E := min a.e b.e) (by omega) (by omega) (by omega)]
  rw [sumAt_congr (plain_neg ha) (plain_neg hb) (dv_plain (by omega)) (dv_plain (by omega))]

theorem may_iff {a : Dy} : a.may = true ↔ nlen a.n ≤ 4096 ∧ -8192 ≤ a.e ∧ a.e ≤ 8192 := by unfold Dy.may; simp
theorem plain_bounds {a : Dy} (h : a.may = true) : nlen a.plain.n ≤ 4096 ∧ -8192 ≤ a.plain.e ∧ a.plain.e ≤ 12288 := by
  have := may_iff.1 h
  by_cases h0 : a.n = 0
  · rw [plain_zero h0]; simp [Dy.zero, nlen_zero]
  · have h2 := plain_nlen h0
    have h3 := tz_lt_nlen h0
    refine ⟨by omega, ?_⟩
    rw [plain_pos h0]; dsimp only; omega
theorem told_plain (a : Dy) : told a.plain = told a := by unfold Dy.told; rw [plain_plain]
theorem told_congr {a b : Dy} (h : a.plain = b.plain) : told a = told b := by rw [← told_plain a, h, told_plain]

open Dy

/-- A number and a message, as the program tells them. -/
def flat (r : Dy × Int) : Bool × List Int × Int × Int := (r.1.neg, parts r.1.n, r.1.e, r.2)
theorem may_sm {l : List Int} (neg : Bool) {e : Int} (h : Dy.may ⟨neg, nv l, e⟩ = true) : nlen (nv l) ≤ 4096 ∧ -8192 ≤ e ∧ e ≤ 8192 := may_iff.1 h
theorem may_exs {l : List Int} {neg : Bool} {e : Int} (h : Dy.may ⟨neg, nv l, e⟩ = true) : Exs e := by have := may_iff.1 h; unfold Exs; dsimp only at this; omega
/-- Two numbers of one exponent. -/
def lev (a b : Dy) : Nat × Nat × Int :=
  if a.plain.n = 0 then (0, b.plain.n, b.plain.e) else if b.plain.n = 0 then (a.plain.n, 0, a.plain.e)
  else (a.plain.dv (min a.plain.e b.plain.e), b.plain.dv (min a.plain.e b.plain.e), min a.plain.e b.plain.e)
open Dy

/-! Too far apart: the sum is too great. -/
def far (a b : Dy) : Prop := a.n ≠ 0 ∧ b.n ≠ 0 ∧ 8192 < max (a.plain.e + nlen a.plain.n) (b.plain.e + nlen b.plain.n) - min a.plain.e b.plain.e
instance (a b : Dy) : Decidable (far a b) := by unfold far; infer_instance

theorem nlen_sub_ge {x y : Nat} {k : Nat} (hx : k + 1 < nlen x) (hy : nlen y ≤ k) : k < nlen (x - y) := by
  have h1 : 2 ^ (k + 1) ≤ x := nlen_gt_iff.1 hx
  have h2 : y < 2 ^ k := nlen_le_iff.1 hy
  rw [Nat.pow_succ] at h1
  exact nlen_gt_iff.2 (by omega)
theorem plain_of_odd {neg : Bool} {n : Nat} {e : Int} (h : n % 2 = 1) : Dy.plain ⟨neg, n, e⟩ = ⟨neg, n, e⟩ := by
  have h0 : n ≠ 0 := by intro e; rw [e] at h; simp at h
  rw [plain_pos (a := ⟨neg, n, e⟩) h0]; dsimp only; rw [tz_odd h]; simp
theorem even_pow (y : Nat) {d : Nat} (h : d ≠ 0) : y * 2 ^ d % 2 = 0 := by
  obtain ⟨k, rfl⟩ := Nat.exists_eq_succ_of_ne_zero h
  rw [Nat.pow_succ, ← Nat.mul_assoc]; omega
theorem told_big {d : Dy} (h : 4096 < nlen d.plain.n) : told d = (zero, 6) := by
  unfold Dy.told; rw [if_neg]; rw [may_iff]; omega
theorem far_told {a b : Dy} (ha : a.may = true) (hb : b.may = true) (h : far a b) : told (sum a b) = (zero, 6) := by
  obtain ⟨h0, h1, h2⟩ := h
  rw [← told_congr (sum_plain h0 h1)]
  have ba := plain_bounds ha
  have bb := plain_bounds hb
  have oa := plain_odd h0
  have ob := plain_odd h1
  generalize a.plain = p at *
  generalize b.plain = q at *
  have hp : p.n ≠ 0 := by intro e; rw [e] at oa; simp at oa
  have hq : q.n ≠ 0 := by intro e; rw [e] at ob; simp at ob
  refine told_big ?_
  rw [sum_eq]
  unfold Dy.sumAt
  by_cases hpq : p.e < q.e
  · have e1 : min p.e q.e = p.e := by omega
    rw [e1, dv_self]
    have l1 : nlen (q.dv p.e) = nlen q.n + (q.e - p.e).toNat := nlen_mul_pow hq _
    have ev : q.dv p.e % 2 = 0 := even_pow _ (by omega)
    have lt : p.n < q.dv p.e := by
      refine Nat.lt_of_not_le fun hh => ?_
      have := nlen_mono hh
      omega
    by_cases hn : p.neg = q.neg
    · rw [if_pos hn, plain_of_odd (by omega)]
      have := nlen_mono (Nat.le_add_left (q.dv p.e) p.n)
      dsimp only; omega
    · rw [if_neg hn, if_neg (by omega), plain_of_odd (by omega)]
      exact nlen_sub_ge (by omega) (by omega)
  · have hne : q.e < p.e := by omega
    have e1 : min p.e q.e = q.e := by omega
    rw [e1, dv_self]
    have l1 : nlen (p.dv q.e) = nlen p.n + (p.e - q.e).toNat := nlen_mul_pow hp _
    have ev : p.dv q.e % 2 = 0 := even_pow _ (by omega)
    have lt : q.n < p.dv q.e := by
      refine Nat.lt_of_not_le fun hh => ?_
      have := nlen_mono hh
      omega
    by_cases hn : p.neg = q.neg
    · rw [if_pos hn, plain_of_odd (by omega)]
      have := nlen_mono (Nat.le_add_right (p.dv q.e) q.n)
      dsimp only; omega
    · rw [if_neg hn, if_pos (by omega), plain_of_odd (by omega)]
      exact nlen_sub_ge (by omega) (by omega)

open Dy

theorem told_self (d : Dy) : told ⟨d.neg, d.plain.n, d.plain.e⟩ = told d := by
  by_cases h : d.n = 0
  · refine told_congr ?_
    rw [plain_zero (a := ⟨d.neg, d.plain.n, d.plain.e⟩) (plain_n.2 h), plain_zero h]
  · rw [← told_plain d]
    have := plain_neg h
    congr 1
    rw [← this]
theorem told_none {d : Dy} (h : d.n = 0) (s : Bool) (e : Int) : told ⟨s, 0, e⟩ = told d := told_congr (by rw [plain_zero (a := ⟨s, 0, e⟩) rfl, plain_zero h])

def lsum (a b : Dy) : Dy :=
  if a.neg = b.neg then ⟨a.neg, (lev a b).1 + (lev a b).2.1, (lev a b).2.2⟩
  else if (lev a b).1 < (lev a b).2.1 then ⟨b.neg, (lev a b).2.1 - (lev a b).1, (lev a b).2.2⟩ else ⟨a.neg, (lev a b).1 - (lev a b).2.1, (lev a b).2.2⟩
theorem lsum_told (a b : Dy) : told (lsum a b) = told (if a.n = 0 then b else if b.n = 0 then a else sum a b) := by
  by_cases h1 : a.n = 0
  · have e1 : lev a b = (0, b.plain.n, b.plain.e) := if_pos (plain_n.2 h1)
    unfold lsum
    rw [if_pos h1, e1]
    dsimp only
    by_cases hs : a.neg = b.neg
    · rw [if_pos hs, hs, Nat.zero_add]; exact told_self b
    · rw [if_neg hs]
      by_cases h2 : 0 < b.plain.n
      · rw [if_pos h2, Nat.sub_zero]; exact told_self b
      · rw [if_neg h2, Nat.zero_sub]; exact told_none (plain_n.1 (by omega)) _ _
  have g1 : a.plain.n ≠ 0 := fun e => h1 (plain_n.1 e)
  by_cases h2 : b.n = 0
  · have e1 : lev a b = (a.plain.n, 0, a.plain.e) := by unfold lev; rw [if_neg g1, if_pos (plain_n.2 h2)]
    unfold lsum
    rw [if_neg h1, if_pos h2, e1]
    dsimp only
    by_cases hs : a.neg = b.neg
    · rw [if_pos hs, Nat.add_zero]; exact told_self a
    · rw [if_neg hs, if_neg (by omega), Nat.sub_zero]; exact told_self a
  have g2 : b.plain.n ≠ 0 := fun e => h2 (plain_n.1 e)
  rw [if_neg h1, if_neg h2, ← told_congr (sum_plain h1 h2)]
  have e1 : lev a b = (a.plain.dv (min a.plain.e b.plain.e), b.plain.dv (min a.plain.e b.plain.e), min a.plain.e b.plain.e) := by unfold lev; rw [if_neg g1, if_neg g2]
  unfold lsum
  rw [e1, sum_eq]
  unfold Dy.sumAt
  dsimp only
  rw [plain_neg h1, plain_neg h2]
  by_cases hs : a.neg = b.neg
  · rw [if_pos hs, if_pos hs]
  · rw [if_neg hs, if_neg hs]
    by_cases hl : a.plain.dv (min a.plain.e b.plain.e) < b.plain.dv (min a.plain.e b.plain.e)
    · rw [if_pos hl, if_neg (by omega)]
    · rw [if_neg hl, if_pos (by omega)]
/-- How great the two become, if they are not too far apart. -/
theorem lev_bounds {a b : Dy} (ma : a.may = true) (mb : b.may = true) (hf : ¬ far a b) : nlen (lev a b).1 ≤ 8192 ∧ nlen (lev a b).2.1 ≤ 8192 ∧ -8192 ≤ (lev a b).2.2 ∧ (lev a b).2.2 ≤ 12288 ∧
    (a.plain.n ≠ 0 → b.plain.n ≠ 0 → (nlen a.plain.n : Int) + (a.plain.e - min a.plain.e b.plain.e) ≤ 8192 ∧ (nlen b.plain.n : Int) + (b.plain.e - min a.plain.e b.plain.e) ≤ 8192) := by
  have ba := plain_bounds ma
  have bb := plain_bounds mb
  have hr : a.plain.n ≠ 0 → b.plain.n ≠ 0 → (nlen a.plain.n : Int) + (a.plain.e - min a.plain.e b.plain.e) ≤ 8192 ∧ (nlen b.plain.n : Int) + (b.plain.e - min a.plain.e b.plain.e) ≤ 8192 := by
    intro h1 h2
    have : ¬ 8192 < max (a.plain.e + nlen a.plain.n) (b.plain.e + nlen b.plain.n) - min a.plain.e b.plain.e := fun h => hf ⟨fun e => h1 (plain_n.2 e), fun e => h2 (plain_n.2 e), h⟩
    omega
  by_cases h1 : a.plain.n = 0
  · have e1 : lev a b = (0, b.plain.n, b.plain.e) := if_pos h1
    rw [e1]; dsimp only; rw [nlen_zero]; exact ⟨by omega, by omega, by omega, by omega, hr⟩
  by_cases h2 : b.plain.n = 0
  · have e1 : lev a b = (a.plain.n, 0, a.plain.e) := by unfold lev; rw [if_neg h1, if_pos h2]
    rw [e1]; dsimp only; rw [nlen_zero]; exact ⟨by omega, by omega, by omega, by omega, hr⟩
  have e1 : lev a b = (a.plain.dv (min a.plain.e b.plain.e), b.plain.dv (min a.plain.e b.plain.e), min a.plain.e b.plain.e) := by unfold lev; rw [if_neg h1, if_neg h2]
  rw [e1]; dsimp only
  have := hr h1 h2
  have l1 := nlen_shift_le a.plain.n (a.plain.e - min a.plain.e b.plain.e).toNat
  have l2 := nlen_shift_le b.plain.n (b.plain.e - min a.plain.e b.plain.e).toNat
  change nlen (a.plain.dv _) ≤ _ at l1
  change nlen (b.plain.dv _) ≤ _ at l2
  exact ⟨by omega, by omega, by omega, by omega, hr⟩
open Dy

theorem sg_mul (x y k : Nat) : sg (x * 2 ^ k) (y * 2 ^ k) = sg x y := by
  have hp := Nat.two_pow_pos k
  unfold sg
  have h1 : x * 2 ^ k < y * 2 ^ k ↔ x < y := Nat.mul_lt_mul_right hp
  have h2 : y * 2 ^ k < x * 2 ^ k ↔ y < x := Nat.mul_lt_mul_right hp
  by_cases h : x < y
  · rw [if_pos (h1.2 h), if_pos h]
  · rw [if_neg (fun e => h (h1.1 e)), if_neg h]
    by_cases g : y < x
    · rw [if_pos (h2.2 g), if_pos g]
    · rw [if_neg (fun e => g (h2.1 e)), if_neg g]
theorem sg_dv {a b : Dy} {E F : Int} (h : E ≤ F) (ha : F ≤ a.e) (hb : F ≤ b.e) : sg (a.dv E) (b.dv E) = sg (a.dv F) (b.dv F) := by
  rw [dv_down h ha, dv_down h hb, sg_mul]
theorem sg_plain {a b : Dy} (h1 : a.n ≠ 0) (h2 : b.n ≠ 0) : sg (a.plain.dv (min a.plain.e b.plain.e)) (b.plain.dv (min a.plain.e b.plain.e)) = sg (a.dv (min a.e b.e)) (b.dv (min a.e b.e)) := by
  have g1 := plain_e_ge a h1
  have g2 := plain_e_ge b h2
  rw [← sg_dv (a := a.plain) (b := b.plain) (E := min a.e b.e) (by omega) (by omega) (by omega), dv_plain (by omega), dv_plain (by omega)]
theorem top_plain {a : Dy} (h : a.n ≠ 0) : a.plain.e + nlen a.plain.n = a.e + nlen a.n := by
  have := plain_nlen h
  have e : a.plain.e = a.e + tz a.n := by rw [plain_pos h]
  omega
theorem sg_top {a b : Dy} (h1 : a.n ≠ 0) (h2 : b.n ≠ 0) (h : b.e + nlen b.n < a.e + nlen a.n) : sg (a.dv (min a.e b.e)) (b.dv (min a.e b.e)) = 1 := by
  have l1 : nlen (a.dv (min a.e b.e)) = nlen a.n + (a.e - min a.e b.e).toNat := nlen_mul_pow h1 _
  have l2 : nlen (b.dv (min a.e b.e)) = nlen b.n + (b.e - min a.e b.e).toNat := nlen_mul_pow h2 _
  refine sg_gt (Nat.lt_of_not_le fun hh => ?_)
  have := nlen_mono hh
  omega
theorem sg_top' {a b : Dy} (h1 : a.n ≠ 0) (h2 : b.n ≠ 0) (h : a.e + nlen a.n < b.e + nlen b.n) : sg (a.dv (min a.e b.e)) (b.dv (min a.e b.e)) = -1 := by
  rw [sg_swap, Int.min_comm, sg_top h2 h1 h]
theorem sg_vals (x y : Nat) : sg x y = -1 ∨ sg x y = 0 ∨ sg x y = 1 := by unfold sg; split <;> (try split) <;> simp
theorem sgn_main {a b : Dy} (h1 : a.n ≠ 0) (h2 : b.n ≠ 0) (h3 : a.neg = b.neg) : sgn a b = if a.neg = true then -(sg (a.dv (min a.e b.e)) (b.dv (min a.e b.e))) else sg (a.dv (min a.e b.e)) (b.dv (min a.e b.e)) := by
  unfold Dy.sgn
  rw [if_neg (fun e => h1 e.1), if_neg h1, if_neg (by rintro (e | e); exact h2 e; exact e h3)]
  rfl

def flatf (r : Dy × Bool × Int) : Bool × List Int × Int × Bool × Int := (r.1.neg, parts r.1.n, r.1.e, r.2.1, r.2.2)
open Dy

/-! The document's answer: bits with an exponent -/
def bflat (r : Dy × Int) : Bool × List Bool × Int × Int := (r.1.neg, bts r.1.n, r.1.e, r.2)
theorem dv_nlen (a : Dy) (E : Int) : nlen (a.dv E) ≤ nlen a.n + (a.e - E).toNat := nlen_shift_le _ _

open Dy

def bflatf (r : Dy × Bool × Int) : Bool × List Bool × Int × Bool × Int := (r.1.neg, bts r.1.n, r.1.e, r.2.1, r.2.2)
open Dy

theorem zero_nlen : nlen Dy.zero.n = 0 := nlen_zero
theorem told_nlen (d : Dy) : nlen (told d).1.n ≤ 4096 := by
  unfold Dy.told
  by_cases h : d.plain.may = true
  · rw [if_pos h]; exact (may_iff.1 h).1
  · rw [if_neg h]; show nlen Dy.zero.n ≤ _; rw [zero_nlen]; omega
theorem add_nlen (a b : Dy) : nlen (add a b).1.n ≤ 4096 := by
  unfold Dy.add
  by_cases h : a.may = true ∧ b.may = true
  · rw [if_pos h]; exact told_nlen _
  · rw [if_neg h]; show nlen Dy.zero.n ≤ _; rw [zero_nlen]; omega
theorem mul_nlen (a b : Dy) : nlen (mul a b).1.n ≤ 4096 := by
  unfold Dy.mul
  by_cases h : a.may = true ∧ b.may = true
  · rw [if_pos h]; exact told_nlen _
  · rw [if_neg h]; show nlen Dy.zero.n ≤ _; rw [zero_nlen]; omega
theorem plain_nlen_le (a : Dy) : nlen a.plain.n ≤ nlen a.n := by
  by_cases h : a.n = 0
  · rw [plain_zero h]; show nlen Dy.zero.n ≤ _; rw [zero_nlen]; omega
  · have := plain_nlen h; omega
open Dy

theorem told_may {d : Dy} (h : d.plain.may = true) : told d = (d.plain, 0) := if_pos h
theorem zero_plain : Dy.zero.plain = Dy.zero := plain_zero rfl
theorem told_zero {d : Dy} (h : d.n = 0) : told d = (zero, 0) := by
  rw [told_may (by rw [plain_zero h]; decide +kernel), plain_zero h]
theorem may_of {d : Dy} {k : Nat} (h : nlen d.n ≤ k) (hk : k ≤ 4096) (h1 : -8192 ≤ d.e) (h2 : d.e ≤ 8192) : d.may = true := may_iff.2 ⟨by omega, h1, h2⟩
theorem plain_may {d : Dy} (h : nlen d.n ≤ 4000) (h1 : -8192 ≤ d.e) (h2 : d.e ≤ 4000) : d.plain.may = true := by
  have := plain_nlen_le d
  by_cases h0 : d.n = 0
  · rw [plain_zero h0]; decide +kernel
  · have ht := tz_lt_nlen h0
    refine may_iff.2 ⟨by omega, ?_⟩
    rw [plain_pos h0]; dsimp only; omega
end Go.Proofs.Ytlaffgojgfdlnaa.N
