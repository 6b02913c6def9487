/- The three formats: parts, class, number and bits of a word as whole numbers, and their bounds, for all bits. -/
import Derived.Test.YtlaffgojgfdlnaaN40
import Derived.Test.YtlaffgojgfdlnaaPx0
set_option linter.unusedVariables false
namespace Go.Proofs.Ytlaffgojgfdlnaa.N
open Go.RowKit Go.Proofs.Ytlaffgojgfdlnaa.P Go.Proofs.YtlaffgojgfdlnaaW.PrintWords Go.Proofs.YtlaffgojgfdlnaaW.PrintMore Sk
open Dy
/-! ### Formats -/
/-- A format: digits, the exponent's bits. -/
structure Fm where
  p : Nat
  w : Nat
namespace Fm
def ok (f : Fm) : Prop := f = ⟨11, 5⟩ ∨ f = ⟨24, 8⟩ ∨ f = ⟨53, 11⟩
def bias (f : Fm) : Int := ((2 ^ (f.w - 1) - 1 : Nat) : Int)
def low (f : Fm) : Int := 2 - f.p - f.bias
def fr (f : Fm) (b : Nat) : Nat := b % 2 ^ (f.p - 1)
def ex (f : Fm) (b : Nat) : Nat := b / 2 ^ (f.p - 1) % 2 ^ f.w
def sn (f : Fm) (b : Nat) : Bool := decide (b / 2 ^ (f.p + f.w - 1) % 2 = 1)
def cl (f : Fm) (b : Nat) : Nat :=
  if f.ex b = 0 then (if f.fr b = 0 then 0 else 1) else if f.ex b < 2 ^ f.w - 1 then 2 else if f.fr b = 0 then 3 else if 2 ^ (f.p - 2) ≤ f.fr b then 4 else 5
/-- The size's number; its place. -/
def mg (f : Fm) (b : Nat) : Nat := if f.ex b = 0 then f.fr b else f.fr b + 2 ^ (f.p - 1)
def pl (f : Fm) (b : Nat) : Int := if f.ex b = 0 then f.low else f.low + f.ex b - 1
def raw (f : Fm) (b : Nat) : Dy := ⟨f.sn b, f.mg b, f.pl b⟩
def val (f : Fm) (b : Nat) : Dy × Int := if 2 ^ (f.p + f.w) ≤ b then (Dy.zero, 3) else if 2 < f.cl b then (Dy.zero, 1) else ((f.raw b).plain, 0)
def bld (f : Fm) (neg : Bool) (e x : Nat) : Nat := e * 2 ^ (f.p - 1) + x + (if neg = true then 2 ^ (f.p + f.w - 1) else 0)
def inf (f : Fm) (neg : Bool) : Nat := f.bld neg (2 ^ f.w - 1) 0
def grt (f : Fm) (neg : Bool) : Nat := f.bld neg (2 ^ f.w - 2) (2 ^ (f.p - 1) - 1)
def non (f : Fm) : Nat := f.bld false (2 ^ f.w - 1) (2 ^ (f.p - 2))
def qui (f : Fm) (b : Nat) : Nat := f.bld (f.sn b) (f.ex b) (if f.fr b < 2 ^ (f.p - 2) then f.fr b + 2 ^ (f.p - 2) else f.fr b)
/-- The exponent field of a number in plain form, and its place; its bits. -/
def fe (f : Fm) (q : Dy) : Int := max 1 (q.e + nlen q.n - f.low - f.p + 1)
def put (f : Fm) (a : Dy) : Nat × Int :=
  if a.may = true then (if a.n = 0 then (0, 0) else
    if ((2 ^ f.w : Nat) : Int) - 1 ≤ f.fe a.plain ∨ a.plain.e < f.low + f.fe a.plain - 1 then (0, 10) else
      (f.bld a.neg (if a.plain.n * 2 ^ (a.plain.e - (f.low + f.fe a.plain - 1)).toNat < 2 ^ (f.p - 1) then 0 else (f.fe a.plain).toNat) (a.plain.n * 2 ^ (a.plain.e - (f.low + f.fe a.plain - 1)).toNat % 2 ^ (f.p - 1)), 0))
  else (0, 3)
section
variable {f : Fm} {b : Nat}
theorem bounds (h : f.ok) : 11 ≤ f.p ∧ f.p ≤ 53 ∧ 5 ≤ f.w ∧ f.w ≤ 11 ∧ f.p + f.w ≤ 64 ∧ -1074 ≤ f.low ∧ f.low ≤ -24 ∧ 15 ≤ f.bias ∧ f.bias ≤ 1023 ∧ f.low = 2 - f.p - f.bias ∧ 2 ^ f.w = 2 * f.bias.toNat + 2 := by
  rcases h with rfl | rfl | rfl <;> decide
theorem fr_lt (h : f.ok) : f.fr b < 2 ^ (f.p - 1) := Nat.mod_lt _ (Nat.two_pow_pos _)
theorem ex_lt : f.ex b < 2 ^ f.w := Nat.mod_lt _ (Nat.two_pow_pos _)
theorem bld_lt (h : f.ok) {neg : Bool} {e x : Nat} (he : e < 2 ^ f.w) (hx : x < 2 ^ (f.p - 1)) : f.bld neg e x < 2 ^ (f.p + f.w) := by
  rcases h with rfl | rfl | rfl <;> simp only [bld, Nat.reduceSub, Nat.reduceAdd, Nat.reducePow] at * <;> split <;> omega
theorem bld_parts (h : f.ok) {neg : Bool} {e x : Nat} (he : e < 2 ^ f.w) (hx : x < 2 ^ (f.p - 1)) : f.sn (f.bld neg e x) = neg ∧ f.ex (f.bld neg e x) = e ∧ f.fr (f.bld neg e x) = x := by
  rcases h with rfl | rfl | rfl <;> simp only [bld, sn, ex, fr, Nat.reduceSub, Nat.reduceAdd, Nat.reducePow] at * <;> cases neg <;> simp only [Bool.false_eq_true, if_false, if_true, decide_eq_true_eq, decide_eq_false_iff_not] <;> refine ⟨?_, ?_, ?_⟩ <;> omega
theorem bld_self (h : f.ok) : f.bld (f.sn b) (f.ex b) (f.fr b) = b % 2 ^ (f.p + f.w) := by
  rcases h with rfl | rfl | rfl <;> simp only [bld, sn, ex, fr, Nat.reduceSub, Nat.reduceAdd, Nat.reducePow, decide_eq_true_eq] <;> split <;> omega
theorem mg_lt (h : f.ok) : f.mg b < 2 ^ f.p := by
  have := fr_lt h (b := b)
  have e : 2 ^ f.p = 2 * 2 ^ (f.p - 1) := by have := bounds h; rw [← Nat.pow_succ']; congr 1; omega
  unfold mg; split <;> omega
theorem pl_b (h : f.ok) : f.low ≤ f.pl b ∧ f.pl b ≤ f.low + 2 * f.bias := by
  have := bounds h
  have := ex_lt (f := f) (b := b)
  unfold pl; split <;> omega
theorem raw_may (h : f.ok) (b : Nat) : (f.raw b).may = true := by
  have h1 := bounds h
  have h2 := pl_b h (b := b)
  exact may_of (k := 53) (by show nlen (f.mg b) ≤ 53; exact Nat.le_trans (nlen_le_iff.2 (mg_lt h)) (by omega)) (by omega) (by show -8192 ≤ f.pl b; omega) (by show f.pl b ≤ 8192; omega)
theorem cl_ex : f.ex b = 0 ↔ f.cl b < 2 := by
  unfold cl
  by_cases h1 : f.ex b = 0
  · rw [if_pos h1]; refine ⟨fun _ => ?_, fun _ => h1⟩; split <;> omega
  · rw [if_neg h1]; refine ⟨fun k => absurd k h1, fun k => ?_⟩; split at k <;> (try split at k) <;> (try split at k) <;> omega
theorem val_may (h : f.ok) (b : Nat) : (f.val b).1.may = true := by
  have z : Dy.zero.may = true := by decide +kernel
  unfold val
  split
  · exact z
  split
  · exact z
  · have h1 := bounds h
    have h2 := pl_b h (b := b)
    exact plain_may (by show nlen (f.mg b) ≤ 4000; exact Nat.le_trans (nlen_le_iff.2 (mg_lt h)) (by omega)) (by show -8192 ≤ f.pl b; omega) (by show f.pl b ≤ 4000; omega)
theorem val_nlen (h : f.ok) (b : Nat) : nlen (f.val b).1.n ≤ 53 := by
  unfold val
  split
  · show nlen 0 ≤ 53; rw [nlen_zero]; omega
  split
  · show nlen 0 ≤ 53; rw [nlen_zero]; omega
  · have h1 := bounds h
    exact Nat.le_trans (plain_nlen_le _) (Nat.le_trans (nlen_le_iff.2 (mg_lt h)) (by omega))
theorem val_b (h : f.ok) (b : Nat) : nlen (f.val b).1.n ≤ 53 ∧ -1100 ≤ (f.val b).1.e ∧ (f.val b).1.e ≤ 1200 := by
  refine ⟨val_nlen h b, ?_⟩
  have h1 := bounds h
  have h2 := pl_b h (b := b)
  unfold val
  split
  · decide
  split
  · decide
  · by_cases h0 : f.mg b = 0
    · rw [plain_zero (a := f.raw b) h0]; decide
    · have h3 := top_plain (a := f.raw b) h0
      have h4 := plain_e_ge (f.raw b) h0
      have h5 : nlen (f.raw b).n ≤ 53 := Nat.le_trans (nlen_le_iff.2 (mg_lt h)) (by omega)
      have h6 : (f.raw b).e = f.pl b := rfl
      dsimp only
      omega
end
end Fm
end Go.Proofs.Ytlaffgojgfdlnaa.N
