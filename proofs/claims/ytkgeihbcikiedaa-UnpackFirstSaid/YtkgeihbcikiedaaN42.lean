/- Whole numbers of 64 bits, and the three formats: fields, classes and bits, for all bits. -/
import Derived.Test.YtkgeihbcikiedaaN21
import Derived.Test.YtkgeihbcikiedaaPx0
set_option linter.unusedVariables false
namespace Go.Proofs.Ytkgeihbcikiedaa.N
open Go.RowKit Go.Proofs.Ytkgeihbcikiedaa.P Go.Proofs.YtkgeihbcikiedaaW.PrintWords Go.Proofs.YtkgeihbcikiedaaW.PrintMore Sk
open Dy
structure Fm where
 p : Nat
 w : Nat
namespace Fm
def ok (f : Fm) : Prop := f = ⟨11, 5⟩ ∨ f = ⟨24, 8⟩ ∨ f = ⟨53, 11⟩
def Js (f : Fm) : Int := ((2 ^ (f.w - 1) - 1 : Nat) : Int)
def low (f : Fm) : Int := 2 - f.p - f.Js
def fr (f : Fm) (b : Nat) : Nat := b % 2 ^ (f.p - 1)
def ex (f : Fm) (b : Nat) : Nat := b / 2 ^ (f.p - 1) % 2 ^ f.w
def sn (f : Fm) (b : Nat) : Bool := decide (b / 2 ^ (f.p + f.w - 1) % 2 = 1)
def cl (f : Fm) (b : Nat) : Nat :=
 if f.ex b = 0 then (if f.fr b = 0 then 0 else 1) else if f.ex b < 2 ^ f.w - 1 then 2 else if f.fr b = 0 then 3 else if 2 ^ (f.p - 2) ≤ f.fr b then 4 else 5
def mg (f : Fm) (b : Nat) : Nat := if f.ex b = 0 then f.fr b else f.fr b + 2 ^ (f.p - 1)
def pl (f : Fm) (b : Nat) : Int := if f.ex b = 0 then f.low else f.low + f.ex b - 1
def raw (f : Fm) (b : Nat) : Dy := ⟨f.sn b, f.mg b, f.pl b⟩
def val (f : Fm) (b : Nat) : Dy × Int := if 2 ^ (f.p + f.w) ≤ b then (Dy.zero, 3) else if 2 < f.cl b then (Dy.zero, 1) else ((f.raw b).plain, 0)
def bld (f : Fm) (neg : Bool) (e x : Nat) : Nat := e * 2 ^ (f.p - 1) + x + (if neg = true then 2 ^ (f.p + f.w - 1) else 0)
def inf (f : Fm) (neg : Bool) : Nat := f.bld neg (2 ^ f.w - 1) 0
def grt (f : Fm) (neg : Bool) : Nat := f.bld neg (2 ^ f.w - 2) (2 ^ (f.p - 1) - 1)
def non (f : Fm) : Nat := f.bld false (2 ^ f.w - 1) (2 ^ (f.p - 2))
def qui (f : Fm) (b : Nat) : Nat := f.bld (f.sn b) (f.ex b) (if f.fr b < 2 ^ (f.p - 2) then f.fr b + 2 ^ (f.p - 2) else f.fr b)
def fe (f : Fm) (q : Dy) : Int := max 1 (q.e + bT q.n - f.low - f.p + 1)
def put (f : Fm) (a : Dy) : Nat × Int :=
 if a.may = true then (if a.n = 0 then (0, 0) else
  if ((2 ^ f.w : Nat) : Int) - 1 ≤ f.fe a.plain ∨ a.plain.e < f.low + f.fe a.plain - 1 then (0, 10) else
   (f.bld a.neg (if a.plain.n * 2 ^ (a.plain.e - (f.low + f.fe a.plain - 1)).toNat < 2 ^ (f.p - 1) then 0 else (f.fe a.plain).toNat) (a.plain.n * 2 ^ (a.plain.e - (f.low + f.fe a.plain - 1)).toNat % 2 ^ (f.p - 1)), 0))
 else (0, 3)
section
variable {f : Fm} {b : Nat}
theorem bounds (h : f.ok) : 11 ≤ f.p ∧ f.p ≤ 53 ∧ 5 ≤ f.w ∧ f.w ≤ 11 ∧ f.p + f.w ≤ 64 ∧ -1074 ≤ f.low ∧ f.low ≤ -24 ∧ 15 ≤ f.Js ∧ f.Js ≤ 1023 ∧ f.low = 2 - f.p - f.Js ∧ 2 ^ f.w = 2 * f.Js.toNat + 2 := by
 rcases h with rfl | rfl | rfl <;> decide
theorem oL (h : f.ok) : f.fr b < 2 ^ (f.p - 1) := Nat.mod_lt _ (Nat.two_pow_pos _)
theorem mf : f.ex b < 2 ^ f.w := Nat.mod_lt _ (Nat.two_pow_pos _)
theorem qP (h : f.ok) {neg : Bool} {e x : Nat} (he : e < 2 ^ f.w) (hx : x < 2 ^ (f.p - 1)) : f.bld neg e x < 2 ^ (f.p + f.w) := by
 rcases h with rfl | rfl | rfl <;> simp only [bld, Nat.reduceSub, Nat.reduceAdd, Nat.reducePow] at * <;> split <;> omega
theorem iQ (h : f.ok) {neg : Bool} {e x : Nat} (he : e < 2 ^ f.w) (hx : x < 2 ^ (f.p - 1)) : f.sn (f.bld neg e x) = neg ∧ f.ex (f.bld neg e x) = e ∧ f.fr (f.bld neg e x) = x := by
 rcases h with rfl | rfl | rfl <;> simp only [bld, sn, ex, fr, Nat.reduceSub, Nat.reduceAdd, Nat.reducePow] at * <;> cases neg <;> simp only [Bool.false_eq_true, if_false, if_true, decide_eq_true_eq, decide_eq_false_iff_not] <;> refine ⟨?_, ?_, ?_⟩ <;> omega
theorem uE (h : f.ok) : f.bld (f.sn b) (f.ex b) (f.fr b) = b % 2 ^ (f.p + f.w) := by
 rcases h with rfl | rfl | rfl <;> simp only [bld, sn, ex, fr, Nat.reduceSub, Nat.reduceAdd, Nat.reducePow, decide_eq_true_eq] <;> split <;> omega
theorem Ca (h : f.ok) : f.mg b < 2 ^ f.p := by
 have := oL h (b := b)
 have e : 2 ^ f.p = 2 * 2 ^ (f.p - 1) := by have := bounds h; rw [← Nat.pow_succ']; congr 1; omega
 unfold mg; split <;> omega
theorem Zr (h : f.ok) : f.low ≤ f.pl b ∧ f.pl b ≤ f.low + 2 * f.Js := by
 have := bounds h; have := mf (f := f) (b := b)
 unfold pl; split <;> omega
theorem uW (h : f.ok) (b : Nat) : (f.val b).1.may = true := by
 have z : Dy.zero.may = true := by decide +kernel
 unfold val
 split
 ·exact z
 split
 ·exact z
 ·have h1 := bounds h; have h2 := Zr h (b := b); exact vZ (by show bT (f.mg b) ≤ 4000; exact Nat.le_trans (fM.2 (Ca h)) (by omega)) (by show -8192 ≤ f.pl b; omega) (by show f.pl b ≤ 4000; omega)
theorem QI (h : f.ok) (b : Nat) : bT (f.val b).1.n ≤ 53 := by
 unfold val
 split
 ·show bT 0 ≤ 53; rw [iw]; omega
 split
 ·show bT 0 ≤ 53; rw [iw]; omega
 ·have h1 := bounds h; exact Nat.le_trans (ol _) (Nat.le_trans (fM.2 (Ca h)) (by omega))
theorem QJ (h : f.ok) (b : Nat) : bT (f.val b).1.n ≤ 53 ∧ -1100 ≤ (f.val b).1.e ∧ (f.val b).1.e ≤ 1200 := by
 refine ⟨QI h b, ?_⟩; have h1 := bounds h; have h2 := Zr h (b := b); unfold val
 split
 ·decide
 split
 ·decide
 ·by_cases h0 : f.mg b = 0
  ·rw [fE (a := f.raw b) h0]; decide
  ·have h3 := oN (a := f.raw b) h0; have h4 := lm (f.raw b) h0; have h5 : bT (f.raw b).n ≤ 53 := Nat.le_trans (fM.2 (Ca h)) (by omega); have h6 : (f.raw b).e = f.pl b := rfl; dsimp only; omega
end
end Fm
end Go.Proofs.Ytkgeihbcikiedaa.N
set_option linter.unusedVariables false
namespace Go.Proofs.Ytkgeihbcikiedaa.N
open Go.RowKit Go.Proofs.Ytkgeihbcikiedaa.P Go.Proofs.YtkgeihbcikiedaaW.PrintWords Go.Proofs.YtkgeihbcikiedaaW.PrintMore Sk
open Dy
namespace Fm
section
variable {f : Fm} {b : Nat}
theorem pp (h : f.ok) : 2 ^ f.p = 2 * 2 ^ (f.p - 1) := by have := bounds h; rw [← Nat.pow_succ']; congr 1; omega
theorem YJ (h : f.ok) {a : Dy} (ma : a.may = true) {s : Bool} {m : Nat} {E : Int} (hp : a.plain = (⟨s, m, f.low + E - 1⟩ : Dy).plain) (h0 : m ≠ 0) (hm : m < 2 ^ f.p) (h1 : 1 ≤ E) (h2 : E = 1 ∨ 2 ^ (f.p - 1) ≤ m) (h3 : E < ((2 ^ f.w : Nat) : Int) - 1) :
 f.put a = (f.bld s (if m < 2 ^ (f.p - 1) then 0 else E.toNat) (m % 2 ^ (f.p - 1)), 0) := by
 have hB := bounds h
 obtain ⟨c, hc⟩ : ∃ c, c = (⟨s, m, f.low + E - 1⟩ : Dy) := ⟨_, rfl⟩
 rw [← hc] at hp
 have c0 : c.n ≠ 0 := by rw [hc]; exact h0
 have a0 : a.n ≠ 0 := fun e => c0 (jI.1 (by rw [← hp]; exact jI.2 e))
 have e1 : a.neg = s := by rw [← oM a0, hp, oM c0, hc]
 have e2 := oN c0; have e3 := lm c c0
 have e4 : c.e = f.low + E - 1 := by rw [hc]
 have e5 : c.n = m := by rw [hc]
 have nm := fM.2 hm
 have fe_eq : f.fe a.plain = E := by
  unfold fe; rw [hp]
  rcases h2 with h2 | h2
  ·rw [e5] at e2; omega
  ·have : f.p ≤ bT m := by
    apply Classical.byContradiction; intro k; have := fM.1 (show bT m ≤ f.p - 1 by omega); omega
   rw [e5] at e2; omega
 have dv_eq : a.plain.n * 2 ^ (a.plain.e - (f.low + E - 1)).toNat = m := by
  have := ut (a := c) (E := c.e) (Int.le_refl _); rw [KF, e5] at this; rw [hp, ← e4]; exact this
 unfold put; rw [if_pos ma, if_neg a0, fe_eq, dv_eq, if_neg (by rw [hp]; omega), e1]
def sz (f : Fm) (b : Nat) : Nat := f.mg b * 2 ^ (f.ex b - 1)
theorem FJ (b : Nat) : f.pl b = f.low + ((f.ex b - 1 : Nat) : Int) := by unfold pl; split <;> omega
theorem Vj (h : f.ok) (hb : b + 1 < 2 ^ (f.p + f.w - 1)) : f.sz (b + 1) = f.sz b + 2 ^ (f.ex b - 1) := by
 have hB := bounds h
 obtain ⟨M, hM⟩ : ∃ M, M = 2 ^ (f.p - 1) := ⟨_, rfl⟩
 have hM0 : 0 < M := by rw [hM]; exact Nat.two_pow_pos _
 have hw : 2 ^ (f.p + f.w - 1) = M * 2 ^ f.w := by rw [hM, ← Nat.pow_add]; congr 1; omega
 have key : ∀ c, c < 2 ^ (f.p + f.w - 1) → f.ex c = c / M := by
  intro c hc; unfold ex; rw [← hM]; apply Nat.mod_eq_of_lt; rw [Nat.div_lt_iff_lt_mul hM0, Nat.mul_comm, ← hw]; exact hc
 have k1 := key b (by omega); have k2 := key (b + 1) hb; unfold sz mg
 by_cases hc : b % M + 1 < M
 ·have x1 := Nat.div_add_mod b M
  have d1 : (b + 1) / M = b / M := by
   rw [Nat.div_eq_iff hM0]; have : M * (b / M) = b / M * M := Nat.mul_comm _ _; omega
  have e1 : f.fr (b + 1) = f.fr b + 1 := by
   unfold fr; rw [← hM]; have x2 := Nat.div_add_mod (b + 1) M; rw [d1] at x2; omega
  rw [k2, d1, ← k1, e1]
  split
  ·rename_i hz; rw [hz]; simp
  ·rw [show f.fr b + 1 + 2 ^ (f.p - 1) = (f.fr b + 2 ^ (f.p - 1)) + 1 by omega, Nat.add_mul, Nat.one_mul]
 ·have hl := Nat.mod_lt b hM0; have x1 := Nat.div_add_mod b M
  have e0 : b + 1 = M * (b / M + 1) := by rw [Nat.mul_add, Nat.mul_one]; omega
  have d1 : (b + 1) / M = b / M + 1 := by rw [e0, Nat.mul_div_cancel_left _ hM0]
  have e1 : f.fr (b + 1) = 0 := by unfold fr; rw [← hM, e0, Nat.mul_mod_right]
  have e2 : f.fr b = M - 1 := by unfold fr; rw [← hM]; omega
  rw [k2, d1, ← k1, e1, e2, if_neg (by omega), ← hM, Nat.zero_add, Nat.add_sub_cancel]
  split
  ·rename_i hz; rw [hz]; simp; omega
  ·rename_i hz; rw [← Nat.succ_mul, show (M - 1 + M).succ = 2 * M by omega, Nat.mul_assoc, Nat.mul_left_comm, ← Nat.pow_succ']
   congr 2; omega
theorem Wy (h : f.ok) {a : Nat} : ∀ {b : Nat}, a < b → b < 2 ^ (f.p + f.w - 1) → f.sz a < f.sz b := by
 intro b
 induction b with
 | zero => intro k; omega
 | succ b ih =>
  intro hab hb; have := Vj h hb; have hp := Nat.two_pow_pos (f.ex b - 1)
  by_cases e : a = b
  ·subst e; omega
  ·have := ih (by omega) (by omega); omega
theorem acr (hc : f.cl b ≤ 2) (hf : f.ok) : f.ex b < 2 ^ f.w - 1 := by
 have := bounds hf; apply Classical.byContradiction; intro k; unfold cl at hc
 rw [if_neg (by omega), if_neg k] at hc; split at hc <;> (try split at hc) <;> omega
theorem Vk : f.mg b = 0 ↔ f.cl b = 0 := by
 unfold mg cl; have := Nat.two_pow_pos (f.p - 1)
 by_cases h1 : f.ex b = 0
 ·rw [if_pos h1, if_pos h1]; split <;> omega
 ·rw [if_neg h1, if_neg h1]; split <;> (try split) <;> (try split) <;> omega
end
end Fm
end Go.Proofs.Ytkgeihbcikiedaa.N
