/- Whole numbers of 64 bits, and the three formats: fields, classes and bits, for all bits. -/
import Derived.Test.YtkgeihbcikiedaaN21
import Derived.Test.YtkgeihbcikiedaaPx0
set_option linter.unusedVariables false
namespace Go.Proofs.Ytkgeihbcikiedaa.N
open Go.RowKit Go.Proofs.Ytkgeihbcikiedaa.P Go.Proofs.YtkgeihbcikiedaaW.PrintWords Go.Proofs.YtkgeihbcikiedaaW.PrintMore Sk
open Dy
theorem mV (m : Nat) : BitVec.ofInt 64 (m : Int) = BitVec.ofNat 64 m := BitVec.ofInt_natCast 64 m
theorem LY {x : Int} (h0 : 0 ≤ x) (h1 : x < 18446744073709551616) : IntKind.wrap .u64 x = x := by rw [IntKind.wrap_u64]; omega
theorem ZH {m n : Nat} (hm : m < 2 ^ 64) (hn : n < 2 ^ 64) : IntKind.wrap .u64 (((BitVec.ofInt (IntKind.bits .u64) (m : Int) &&& BitVec.ofInt (IntKind.bits .u64) (n : Int)).toNat : Nat) : Int) = ((m &&& n : Nat) : Int) := by
 rw [show IntKind.bits .u64 = 64 from rfl, mV, mV, BitVec.toNat_and, BitVec.toNat_ofNat, BitVec.toNat_ofNat, Nat.mod_eq_of_lt hm, Nat.mod_eq_of_lt hn]; have : m &&& n ≤ m := Nat.and_le_left; exact LY (by omega) (by omega)
theorem adh {m n : Nat} (hm : m < 2 ^ 64) (hn : n < 2 ^ 64) : IntKind.wrap .u64 (((BitVec.ofInt (IntKind.bits .u64) (m : Int) ||| BitVec.ofInt (IntKind.bits .u64) (n : Int)).toNat : Nat) : Int) = ((m ||| n : Nat) : Int) := by
 rw [show IntKind.bits .u64 = 64 from rfl, mV, mV, BitVec.toNat_or, BitVec.toNat_ofNat, BitVec.toNat_ofNat, Nat.mod_eq_of_lt hm, Nat.mod_eq_of_lt hn]
 have : m ||| n < 2 ^ 64 := Nat.or_lt_two_pow hm hn
 exact LY (by omega) (by omega)
theorem sW {m k : Nat} (hm : m < 2 ^ 64) (hk : k ≤ 64) : IntKind.wrap .u64 (((BitVec.ofInt (IntKind.bits .u64) (m : Int) &&& BitVec.ofInt (IntKind.bits .u64) ((2 ^ k - 1 : Nat) : Int)).toNat : Nat) : Int) = ((m % 2 ^ k : Nat) : Int) := by
 have : 2 ^ k ≤ 2 ^ 64 := Nat.pow_le_pow_right (by omega) hk; rw [ZH hm (by omega), Nat.and_two_pow_sub_one_eq_mod]
theorem Oq {m k : Nat} (hm : m < 2 ^ 64) (hk : k ≤ 64) : IntKind.wrap .u64 (((BitVec.ofInt (IntKind.bits .u64) (m : Int) &&& ~~~ (BitVec.ofInt (IntKind.bits .u64) ((2 ^ k - 1 : Nat) : Int))).toNat : Nat) : Int) = ((m / 2 ^ k * 2 ^ k : Nat) : Int) := by
 have hp : 2 ^ k ≤ 2 ^ 64 := Nat.pow_le_pow_right (by omega) hk; have h1 := Nat.two_pow_pos k; rw [show IntKind.bits .u64 = 64 from rfl, mV, mV, BitVec.toNat_and, BitVec.toNat_not, BitVec.toNat_ofNat, BitVec.toNat_ofNat, Nat.mod_eq_of_lt hm, Nat.mod_eq_of_lt (by omega)]
 have e : m &&& (2 ^ 64 - 1 - (2 ^ k - 1)) = m / 2 ^ k * 2 ^ k := by
  apply Nat.eq_of_testBit_eq; intro i; rw [Nat.testBit_and, show 2 ^ 64 - 1 - (2 ^ k - 1) = 2 ^ 64 - ((2 ^ k - 1) + 1) by omega, Nat.testBit_two_pow_sub_succ (by omega), Nat.testBit_two_pow_sub_one, Nat.testBit_mul_two_pow, Nat.testBit_div_two_pow]
  by_cases hi : k ≤ i
  ·by_cases hi6 : i < 64
   ·rw [decide_eq_true hi6, decide_eq_false (show ¬ i < k by omega), decide_eq_true hi, show i - k + k = i by omega]; simp
   ·rw [Nat.testBit_lt_two_pow (show m < 2 ^ i from Nat.lt_of_lt_of_le hm (Nat.pow_le_pow_right (by omega) (by omega))), show i - k + k = i by omega, Nat.testBit_lt_two_pow (show m < 2 ^ i from Nat.lt_of_lt_of_le hm (Nat.pow_le_pow_right (by omega) (by omega)))]; simp
  ·rw [decide_eq_true (show i < k by omega), decide_eq_false hi]; simp
 rw [e]; have := Nat.div_mul_le_self m (2 ^ k); exact LY (by omega) (by omega)
theorem qY (k : Nat) : (2 : Int) ^ k = ((2 ^ k : Nat) : Int) := (Int.natCast_pow 2 k).symm
theorem aiX {m k : Nat} (h : m * 2 ^ k < 2 ^ 64) (hk : k ≤ 64) : IntKind.wrap .u64 ((m : Int) * 2 ^ (min ((k : Nat) : Int).toNat (IntKind.bits .u64))) = ((m * 2 ^ k : Nat) : Int) := by
 rw [Int.toNat_natCast, show IntKind.bits .u64 = 64 from rfl, Nat.min_eq_left hk, qY k, ← Int.natCast_mul]; exact LY (by omega) (by omega)
theorem ZI {m k : Nat} (hk : k ≤ 64) : Int.fdiv (m : Int) (2 ^ (min ((k : Nat) : Int).toNat (IntKind.bits .u64))) = ((m / 2 ^ k : Nat) : Int) := by
 rw [Int.toNat_natCast, show IntKind.bits .u64 = 64 from rfl, Nat.min_eq_left hk, qY k, Int.fdiv_eq_ediv_of_nonneg _ (Int.natCast_nonneg _), ← Int.natCast_ediv]
theorem adi {k : Nat} (hk : k ≤ 64) : IntKind.wrap .u64 (IntKind.wrap .u64 (1 * 2 ^ (min ((k : Nat) : Int).toNat (IntKind.bits .u64))) - 1) = ((2 ^ k - 1 : Nat) : Int) := by
 have h1 := Nat.two_pow_pos k; have h2 : 2 ^ k ≤ 2 ^ 64 := Nat.pow_le_pow_right (by omega) hk; rw [Int.toNat_natCast, show IntKind.bits .u64 = 64 from rfl, Nat.min_eq_left hk, qY k]; simp only [IntKind.wrap_u64]; omega
theorem Ot {a k x : Nat} (h : x < 2 ^ k) : a * 2 ^ k ||| x = a * 2 ^ k + x := by
 rw [Nat.mul_comm, Nat.two_pow_add_eq_or_of_lt h]
end Go.Proofs.Ytkgeihbcikiedaa.N
set_option linter.unusedVariables false
namespace Go.Proofs.Ytkgeihbcikiedaa.N
open Go.RowKit Go.Proofs.Ytkgeihbcikiedaa.P Go.Proofs.YtkgeihbcikiedaaW.PrintWords Go.Proofs.YtkgeihbcikiedaaW.PrintMore Sk
open Dy
structure Fm where
 p : Nat
 w : Nat
namespace Fm
def ok (f : Fm) : Prop := f = ⟨11, 5⟩ ∨ f = ⟨24, 8⟩ ∨ f = ⟨53, 11⟩
def Gz (f : Fm) : Int := ((2 ^ (f.w - 1) - 1 : Nat) : Int)
def low (f : Fm) : Int := 2 - f.p - f.Gz
def fr (f : Fm) (b : Nat) : Nat := b % 2 ^ (f.p - 1)
def ex (f : Fm) (b : Nat) : Nat := b / 2 ^ (f.p - 1) % 2 ^ f.w
def sn (f : Fm) (b : Nat) : Bool := decide (b / 2 ^ (f.p + f.w - 1) % 2 = 1)
def cl (f : Fm) (b : Nat) : Nat :=
 if f.ex b = 0 then (if f.fr b = 0 then 0 else 1) else if f.ex b < 2 ^ f.w - 1 then 2 else if f.fr b = 0 then 3 else if 2 ^ (f.p - 2) ≤ f.fr b then 4 else 5
def mg (f : Fm) (b : Nat) : Nat := if f.ex b = 0 then f.fr b else f.fr b + 2 ^ (f.p - 1)
def pl (f : Fm) (b : Nat) : Int := if f.ex b = 0 then f.low else f.low + f.ex b - 1
def raw (f : Fm) (b : Nat) : Dy := ⟨f.sn b, f.mg b, f.pl b⟩
def val (f : Fm) (b : Nat) : Dy × Int := if 2 ^ (f.p + f.w) ≤ b then (Dy.zero, 3) else if 2 < f.cl b then (Dy.zero, 1) else ((f.raw b).plain, 0)
def bld (f : Fm) (neg : Bool) (e x : Nat) : Nat := e * 2 ^ (f.p - 1) + x + (if neg = true then 2 ^ (f.p + f.w - 1) else 0)
def inf (f : Fm) (neg : Bool) : Nat := f.bld neg (2 ^ f.w - 1) 0
def grt (f : Fm) (neg : Bool) : Nat := f.bld neg (2 ^ f.w - 2) (2 ^ (f.p - 1) - 1)
def non (f : Fm) : Nat := f.bld false (2 ^ f.w - 1) (2 ^ (f.p - 2))
def qui (f : Fm) (b : Nat) : Nat := f.bld (f.sn b) (f.ex b) (if f.fr b < 2 ^ (f.p - 2) then f.fr b + 2 ^ (f.p - 2) else f.fr b)
def fe (f : Fm) (q : Dy) : Int := max 1 (q.e + bu q.n - f.low - f.p + 1)
def put (f : Fm) (a : Dy) : Nat × Int :=
 if a.may = true then (if a.n = 0 then (0, 0) else
  if ((2 ^ f.w : Nat) : Int) - 1 ≤ f.fe a.plain ∨ a.plain.e < f.low + f.fe a.plain - 1 then (0, 10) else
   (f.bld a.neg (if a.plain.n * 2 ^ (a.plain.e - (f.low + f.fe a.plain - 1)).toNat < 2 ^ (f.p - 1) then 0 else (f.fe a.plain).toNat) (a.plain.n * 2 ^ (a.plain.e - (f.low + f.fe a.plain - 1)).toNat % 2 ^ (f.p - 1)), 0))
 else (0, 3)
section
variable {f : Fm} {b : Nat}
theorem bounds (h : f.ok) : 11 ≤ f.p ∧ f.p ≤ 53 ∧ 5 ≤ f.w ∧ f.w ≤ 11 ∧ f.p + f.w ≤ 64 ∧ -1074 ≤ f.low ∧ f.low ≤ -24 ∧ 15 ≤ f.Gz ∧ f.Gz ≤ 1023 ∧ f.low = 2 - f.p - f.Gz ∧ 2 ^ f.w = 2 * f.Gz.toNat + 2 := by
 rcases h with rfl | rfl | rfl <;> decide
theorem oD (h : f.ok) : f.fr b < 2 ^ (f.p - 1) := Nat.mod_lt _ (Nat.two_pow_pos _)
theorem nN : f.ex b < 2 ^ f.w := Nat.mod_lt _ (Nat.two_pow_pos _)
theorem wE (h : f.ok) {neg : Bool} {e x : Nat} (he : e < 2 ^ f.w) (hx : x < 2 ^ (f.p - 1)) : f.bld neg e x < 2 ^ (f.p + f.w) := by
 rcases h with rfl | rfl | rfl <;> simp only [bld, Nat.reduceSub, Nat.reduceAdd, Nat.reducePow] at * <;> split <;> omega
theorem jq (h : f.ok) {neg : Bool} {e x : Nat} (he : e < 2 ^ f.w) (hx : x < 2 ^ (f.p - 1)) : f.sn (f.bld neg e x) = neg ∧ f.ex (f.bld neg e x) = e ∧ f.fr (f.bld neg e x) = x := by
 rcases h with rfl | rfl | rfl <;> simp only [bld, sn, ex, fr, Nat.reduceSub, Nat.reduceAdd, Nat.reducePow] at * <;> cases neg <;> simp only [Bool.false_eq_true, if_false, if_true, decide_eq_true_eq, decide_eq_false_iff_not] <;> refine ⟨?_, ?_, ?_⟩ <;> omega
theorem yX (h : f.ok) : f.bld (f.sn b) (f.ex b) (f.fr b) = b % 2 ^ (f.p + f.w) := by
 rcases h with rfl | rfl | rfl <;> simp only [bld, sn, ex, fr, Nat.reduceSub, Nat.reduceAdd, Nat.reducePow, decide_eq_true_eq] <;> split <;> omega
theorem uD (h : f.ok) : f.mg b < 2 ^ f.p := by
 have := oD h (b := b)
 have e : 2 ^ f.p = 2 * 2 ^ (f.p - 1) := by have := bounds h; rw [← Nat.pow_succ']; congr 1; omega
 unfold mg; split <;> omega
theorem U5 (h : f.ok) : f.low ≤ f.pl b ∧ f.pl b ≤ f.low + 2 * f.Gz := by
 have := bounds h; have := nN (f := f) (b := b)
 unfold pl; split <;> omega
theorem LZ (h : f.ok) (b : Nat) : (f.raw b).may = true := by
 have h1 := bounds h; have h2 := U5 h (b := b); exact vY (k := 53) (by show bu (f.mg b) ≤ 53; exact Nat.le_trans (fE.2 (uD h)) (by omega)) (by omega) (by show -8192 ≤ f.pl b; omega) (by show f.pl b ≤ 8192; omega)
theorem Xe (b : Nat) : f.cl b ≤ 5 := by unfold cl; split <;> (try split) <;> (try split) <;> (try split) <;> omega
theorem Xf : f.ex b = 0 ↔ f.cl b < 2 := by
 unfold cl
 by_cases h1 : f.ex b = 0
 ·rw [if_pos h1]; refine ⟨fun _ => ?_, fun _ => h1⟩; split <;> omega
 ·rw [if_neg h1]; refine ⟨fun k => absurd k h1, fun k => ?_⟩; split at k <;> (try split at k) <;> (try split at k) <;> omega
theorem rF (h : f.ok) (b : Nat) : (f.val b).1.may = true := by
 have z : Dy.zero.may = true := by decide +kernel
 unfold val
 split
 ·exact z
 split
 ·exact z
 ·have h1 := bounds h; have h2 := U5 h (b := b); exact vZ (by show bu (f.mg b) ≤ 4000; exact Nat.le_trans (fE.2 (uD h)) (by omega)) (by show -8192 ≤ f.pl b; omega) (by show f.pl b ≤ 4000; omega)
theorem GA (h : f.ok) (b : Nat) : bu (f.val b).1.n ≤ 53 := by
 unfold val
 split
 ·show bu 0 ≤ 53; rw [gq]; omega
 split
 ·show bu 0 ≤ 53; rw [gq]; omega
 ·have h1 := bounds h; exact Nat.le_trans (jJ _) (Nat.le_trans (fE.2 (uD h)) (by omega))
theorem QG (h : f.ok) (b : Nat) : bu (f.val b).1.n ≤ 53 ∧ -1100 ≤ (f.val b).1.e ∧ (f.val b).1.e ≤ 1200 := by
 refine ⟨GA h b, ?_⟩; have h1 := bounds h; have h2 := U5 h (b := b); unfold val
 split
 ·decide
 split
 ·decide
 ·by_cases h0 : f.mg b = 0
  ·rw [fB (a := f.raw b) h0]; decide
  ·have h3 := lK (a := f.raw b) h0; have h4 := jX (f.raw b) h0; have h5 : bu (f.raw b).n ≤ 53 := Nat.le_trans (fE.2 (uD h)) (by omega); have h6 : (f.raw b).e = f.pl b := rfl; dsimp only; omega
end
end Fm
end Go.Proofs.Ytkgeihbcikiedaa.N
set_option linter.unusedVariables false
namespace Go.Proofs.Ytkgeihbcikiedaa.N
open Go.RowKit Go.Proofs.Ytkgeihbcikiedaa.P Go.Proofs.YtkgeihbcikiedaaW.PrintWords Go.Proofs.YtkgeihbcikiedaaW.PrintMore Sk
open Dy
namespace Fm
section
variable {f : Fm} {b : Nat}
theorem pp (h : f.ok) : 2 ^ f.p = 2 * 2 ^ (f.p - 1) := by have := bounds h; rw [← Nat.pow_succ']; congr 1; omega
theorem YS (h : f.ok) {a : Dy} (ma : a.may = true) {s : Bool} {m : Nat} {E : Int} (hp : a.plain = (⟨s, m, f.low + E - 1⟩ : Dy).plain) (h0 : m ≠ 0) (hm : m < 2 ^ f.p) (h1 : 1 ≤ E) (h2 : E = 1 ∨ 2 ^ (f.p - 1) ≤ m) (h3 : E < ((2 ^ f.w : Nat) : Int) - 1) :
 f.put a = (f.bld s (if m < 2 ^ (f.p - 1) then 0 else E.toNat) (m % 2 ^ (f.p - 1)), 0) := by
 have hB := bounds h
 obtain ⟨c, hc⟩ : ∃ c, c = (⟨s, m, f.low + E - 1⟩ : Dy) := ⟨_, rfl⟩
 rw [← hc] at hp
 have c0 : c.n ≠ 0 := by rw [hc]; exact h0
 have a0 : a.n ≠ 0 := fun e => c0 (ik.1 (by rw [← hp]; exact ik.2 e))
 have e1 : a.neg = s := by rw [← iV a0, hp, iV c0, hc]
 have e2 := lK c0; have e3 := jX c c0
 have e4 : c.e = f.low + E - 1 := by rw [hc]
 have e5 : c.n = m := by rw [hc]
 have nm := fE.2 hm
 have fe_eq : f.fe a.plain = E := by
  unfold fe; rw [hp]
  rcases h2 with h2 | h2
  ·rw [e5] at e2; omega
  ·have : f.p ≤ bu m := by
    apply Classical.byContradiction; intro k; have := fE.1 (show bu m ≤ f.p - 1 by omega); omega
   rw [e5] at e2; omega
 have dv_eq : a.plain.n * 2 ^ (a.plain.e - (f.low + E - 1)).toNat = m := by
  have := oG (a := c) (E := c.e) (Int.le_refl _); rw [Lh, e5] at this; rw [hp, ← e4]; exact this
 unfold put; rw [if_pos ma, if_neg a0, fe_eq, dv_eq, if_neg (by rw [hp]; omega), e1]
def sz (f : Fm) (b : Nat) : Nat := f.mg b * 2 ^ (f.ex b - 1)
theorem zk (b : Nat) : f.pl b = f.low + ((f.ex b - 1 : Nat) : Int) := by unfold pl; split <;> omega
theorem QH (b : Nat) : Va (f.raw b) f.low (if f.sn b = true then -((f.sz b : Nat) : Int) else ((f.sz b : Nat) : Int)) := by
 refine ⟨fun _ => by show f.low ≤ f.pl b; rw [zk]; omega, ?_⟩
 have : (f.raw b).dv f.low = f.sz b := by
  unfold Dy.dv; show f.mg b * 2 ^ (f.pl b - f.low).toNat = _; rw [zk, show (f.low + ((f.ex b - 1 : Nat) : Int) - f.low).toNat = f.ex b - 1 by omega]; rfl
 unfold Dy.sv; rw [this]; rfl
theorem Vo (h : f.ok) (hb : b + 1 < 2 ^ (f.p + f.w - 1)) : f.sz (b + 1) = f.sz b + 2 ^ (f.ex b - 1) := by
 have hB := bounds h
 obtain ⟨M, hM⟩ : ∃ M, M = 2 ^ (f.p - 1) := ⟨_, rfl⟩
 have hM0 : 0 < M := by rw [hM]; exact Nat.two_pow_pos _
 have hw : 2 ^ (f.p + f.w - 1) = M * 2 ^ f.w := by rw [hM, ← Nat.pow_add]; congr 1; omega
 have key : ∀ c, c < 2 ^ (f.p + f.w - 1) → f.ex c = c / M := by
  intro c hc; unfold ex; rw [← hM]; apply Nat.mod_eq_of_lt; rw [Nat.div_lt_iff_lt_mul hM0, Nat.mul_comm, ← hw]; exact hc
 have k1 := key b (by omega); have k2 := key (b + 1) hb; unfold sz mg
 by_cases hc : b % M + 1 < M
 ·have x1 := Nat.div_add_mod b M
  have d1 : (b + 1) / M = b / M := by
   rw [Nat.div_eq_iff hM0]; have : M * (b / M) = b / M * M := Nat.mul_comm _ _; omega
  have e1 : f.fr (b + 1) = f.fr b + 1 := by
   unfold fr; rw [← hM]; have x2 := Nat.div_add_mod (b + 1) M; rw [d1] at x2; omega
  rw [k2, d1, ← k1, e1]
  split
  ·rename_i hz; rw [hz]; simp
  ·rw [show f.fr b + 1 + 2 ^ (f.p - 1) = (f.fr b + 2 ^ (f.p - 1)) + 1 by omega, Nat.add_mul, Nat.one_mul]
 ·have hl := Nat.mod_lt b hM0; have x1 := Nat.div_add_mod b M
  have e0 : b + 1 = M * (b / M + 1) := by rw [Nat.mul_add, Nat.mul_one]; omega
  have d1 : (b + 1) / M = b / M + 1 := by rw [e0, Nat.mul_div_cancel_left _ hM0]
  have e1 : f.fr (b + 1) = 0 := by unfold fr; rw [← hM, e0, Nat.mul_mod_right]
  have e2 : f.fr b = M - 1 := by unfold fr; rw [← hM]; omega
  rw [k2, d1, ← k1, e1, e2, if_neg (by omega), ← hM, Nat.zero_add, Nat.add_sub_cancel]
  split
  ·rename_i hz; rw [hz]; simp; omega
  ·rename_i hz; rw [← Nat.succ_mul, show (M - 1 + M).succ = 2 * M by omega, Nat.mul_assoc, Nat.mul_left_comm, ← Nat.pow_succ']
   congr 2; omega
theorem WN (h : f.ok) {a : Nat} : ∀ {b : Nat}, a < b → b < 2 ^ (f.p + f.w - 1) → f.sz a < f.sz b := by
 intro b
 induction b with
 | zero => intro k; omega
 | succ b ih =>
  intro hab hb; have := Vo h hb; have hp := Nat.two_pow_pos (f.ex b - 1)
  by_cases e : a = b
  ·subst e; omega
  ·have := ih (by omega) (by omega); omega
theorem Ou (b : Nat) : (f.val b = (Dy.zero, 3) ∧ 2 ^ (f.p + f.w) ≤ b) ∨ (f.val b = (Dy.zero, 1) ∧ b < 2 ^ (f.p + f.w) ∧ 2 < f.cl b) ∨ (f.val b = ((f.raw b).plain, 0) ∧ b < 2 ^ (f.p + f.w) ∧ f.cl b ≤ 2) := by
 unfold val
 by_cases h1 : 2 ^ (f.p + f.w) ≤ b
 ·exact .inl ⟨if_pos h1, h1⟩
 ·rw [if_neg h1]
  by_cases h2 : 2 < f.cl b
  ·exact .inr (.inl ⟨if_pos h2, by omega, h2⟩)
  ·exact .inr (.inr ⟨if_neg h2, by omega, by omega⟩)
theorem acn (hc : f.cl b ≤ 2) (hf : f.ok) : f.ex b < 2 ^ f.w - 1 := by
 have := bounds hf; apply Classical.byContradiction; intro k; unfold cl at hc
 rw [if_neg (by omega), if_neg k] at hc; split at hc <;> (try split at hc) <;> omega
theorem Vp : f.mg b = 0 ↔ f.cl b = 0 := by
 unfold mg cl; have := Nat.two_pow_pos (f.p - 1)
 by_cases h1 : f.ex b = 0
 ·rw [if_pos h1, if_pos h1]; split <;> omega
 ·rw [if_neg h1, if_neg h1]; split <;> (try split) <;> (try split) <;> omega
end
end Fm
end Go.Proofs.Ytkgeihbcikiedaa.N
