/- Numbers with a sign and an exponent, for all numbers. -/
import Derived.Test.YtkgeihbcikiedaaN7
import Derived.Test.YtkgeihbcikiedaaPx11
import Derived.Test.YtkgeihbcikiedaaPx12
import Derived.Test.YtkgeihbcikiedaaPx13
import Derived.Test.YtkgeihbcikiedaaPx0
set_option linter.unusedVariables false
namespace Go.Proofs.Ytkgeihbcikiedaa.N
open Go.RowKit Go.Proofs.Ytkgeihbcikiedaa.P Go.Proofs.YtkgeihbcikiedaaW.PrintWords Go.Proofs.YtkgeihbcikiedaaW.PrintMore Sk
structure Dy where
 neg : Bool
 n : Nat
 e : Int
deriving DecidableEq
namespace Dy
def zero : Dy := ⟨false, 0, 0⟩
def may (a : Dy) : Bool := decide (bu a.n ≤ 4096) && (decide (-8192 ≤ a.e) && decide (a.e ≤ 8192))
def plain (a : Dy) : Dy := if a.n = 0 then zero else ⟨a.neg, a.n / 2 ^ tz a.n, a.e + tz a.n⟩
def told (a : Dy) : Dy × Int := if a.plain.may then (a.plain, 0) else (zero, 6)
def turned (a : Dy) : Dy := ⟨!a.neg, a.n, a.e⟩
def sum (a b : Dy) : Dy :=
 let e := min a.e b.e
 let x := a.n * 2 ^ (a.e - e).toNat
 let y := b.n * 2 ^ (b.e - e).toNat
 if a.neg = b.neg then ⟨a.neg, x + y, e⟩ else if y ≤ x then ⟨a.neg, x - y, e⟩ else ⟨b.neg, y - x, e⟩
def add (a b : Dy) : Dy × Int := if a.may = true ∧ b.may = true then told (if a.n = 0 then b else if b.n = 0 then a else sum a b) else (zero, 3)
def mul (a b : Dy) : Dy × Int := if a.may = true ∧ b.may = true then told ⟨a.neg != b.neg, a.n * b.n, a.e + b.e⟩ else (zero, 3)
def sgn (a b : Dy) : Int :=
 if a.n = 0 ∧ b.n = 0 then 0 else if a.n = 0 then (if b.neg then 1 else -1) else if b.n = 0 ∨ a.neg ≠ b.neg then (if a.neg then -1 else 1)
 else
  let e := min a.e b.e
  let c := sg (a.n * 2 ^ (a.e - e).toNat) (b.n * 2 ^ (b.e - e).toNat)
  if a.neg then -c else c
def cmp (a b : Dy) : Int × Int := if a.may = true ∧ b.may = true then (sgn a b, 0) else (0, 3)
def same (a b : Dy) : Bool := decide ((cmp a b).1 = 0) && decide ((cmp a b).2 = 0)
def of (n : Int) : Dy := plain ⟨decide (n < 0), n.natAbs, 0⟩
end Dy
theorem Py {n : Nat} (h : n ≠ 0) : n / 2 ^ tz n % 2 = 1 := by
 obtain ⟨m, e, hm⟩ := uk h
 have h2 : n / 2 ^ tz n = m := by
  conv => lhs; arg 1; rw [e]
  exact Nat.mul_div_cancel_left m (Nat.two_pow_pos _)
 rw [h2]; exact hm
theorem I5 {n : Nat} (h : n ≠ 0) : n / 2 ^ tz n * 2 ^ tz n = n := Nat.div_mul_cancel (Nat.dvd_of_mod_eq_zero ((I7 h _).2 (Nat.le_refl _)))
theorem gL {a : Dy} (h : a.n ≠ 0) : a.plain = ⟨a.neg, a.n / 2 ^ tz a.n, a.e + tz a.n⟩ := by unfold Dy.plain; rw [if_neg h]
theorem fB {a : Dy} (h : a.n = 0) : a.plain = Dy.zero := by unfold Dy.plain; rw [if_pos h]
theorem ik {a : Dy} : a.plain.n = 0 ↔ a.n = 0 := by
 by_cases h : a.n = 0
 ·rw [fB h]; simp [h, Dy.zero]
 ·rw [gL h]; have := Py h; simp only [h, iff_false]; intro e; rw [e] at this; simp at this
theorem NC {a : Dy} (h : a.n ≠ 0) : a.plain.n % 2 = 1 := by rw [gL h]; exact Py h
theorem jU (a : Dy) : a.plain.plain = a.plain := by
 by_cases h : a.n = 0
 ·rw [fB h]; rfl
 ·have h2 : a.plain.n ≠ 0 := fun e => h (ik.1 e)
  rw [gL h2, Dm (NC h)]; simp
theorem sN {a : Dy} (h : a.n ≠ 0) : bu a.plain.n + tz a.n = bu a.n := by
 rw [gL h]; dsimp only; rw [ul]; have := jV h; omega
structure Sm (l : List Int) : Prop where
 ok : Ok l
 len : l.length ≤ 1000
theorem Sm.bu {l : List Int} (h : Sm l) : bu (nv l) ≤ 32000 := by have := xL h.ok; have := h.len; omega
theorem FD {n : Nat} (h : bu n ≤ 31000) : Sm (parts n) := ⟨jW n, by have := acg h; omega⟩
def Exs (e : Int) : Prop := -100000 ≤ e ∧ e ≤ 100000
namespace Dy
def dv (a : Dy) (E : Int) : Nat := a.n * 2 ^ (a.e - E).toNat
def nk (a b : Dy) (E : Int) : Dy :=
 if a.neg = b.neg then ⟨a.neg, a.dv E + b.dv E, E⟩ else if b.dv E ≤ a.dv E then ⟨a.neg, a.dv E - b.dv E, E⟩ else ⟨b.neg, b.dv E - a.dv E, E⟩
theorem I8 (a b : Dy) : sum a b = nk a b (min a.e b.e) := rfl
end Dy
open Dy
theorem sO {n : Nat} (h : n ≠ 0) (k : Nat) : tz (n * 2 ^ k) = tz n + k := by rw [Nat.mul_comm, sP h, Nat.add_comm]
theorem yT {n : Nat} (h : n ≠ 0) (k : Nat) : n * 2 ^ k ≠ 0 := Nat.mul_ne_zero h (Nat.ne_of_gt (Nat.two_pow_pos k))
theorem FE {n : Nat} (h : n ≠ 0) (k : Nat) : n * 2 ^ k / 2 ^ tz (n * 2 ^ k) = n / 2 ^ tz n := by
 rw [sO h, Nat.pow_add, Nat.mul_div_mul_right _ _ (Nat.two_pow_pos k)]
theorem BU {a : Dy} (h : a.n ≠ 0) (E : Int) : a.dv E ≠ 0 := yT h _
theorem um {a : Dy} (h : a.n = 0) (E : Int) : a.dv E = 0 := by unfold Dy.dv; rw [h, Nat.zero_mul]
theorem YL {a : Dy} {E : Int} : a.dv E = 0 ↔ a.n = 0 := ⟨fun e => Classical.byContradiction fun h => BU h E e, fun e => um e E⟩
theorem uo {a : Dy} {E F : Int} (h : E ≤ F) (hF : F ≤ a.e) : a.dv E = a.dv F * 2 ^ (F - E).toNat := by
 unfold Dy.dv; rw [Nat.mul_assoc, ← Nat.pow_add]; congr 2; omega
theorem Lh (a : Dy) : a.dv a.e = a.n := by unfold Dy.dv; rw [Int.sub_self]; simp
theorem oG {a : Dy} {E : Int} (h : E ≤ a.e) : a.plain.dv E = a.dv E := by
 by_cases h0 : a.n = 0
 ·rw [um h0, um (ik.2 h0)]
 ·rw [gL h0]; unfold Dy.dv; dsimp only; rw [show (a.e + (tz a.n : Int) - E).toNat = tz a.n + (a.e - E).toNat by omega, Nat.pow_add, ← Nat.mul_assoc, I5 h0]
theorem jX (a : Dy) (h : a.n ≠ 0) : a.e ≤ a.plain.e := by rw [gL h]; dsimp only; omega
theorem iV {a : Dy} (h : a.n ≠ 0) : a.plain.neg = a.neg := by rw [gL h]
theorem mh {a b : Dy} {E : Int} (ha : E ≤ a.e) (hb : E ≤ b.e) (hn : a.neg = b.neg) (hv : a.dv E = b.dv E) : a.plain = b.plain := by
 by_cases h0 : a.n = 0
 ·have h1 : b.n = 0 := by rw [← YL (E := E), ← hv, um h0]
  rw [fB h0, fB h1]
 ·have h1 : b.n ≠ 0 := by rw [Ne, ← YL (E := E), ← hv, YL]; exact h0
  rw [gL h0, gL h1, hn]; have ea := sO h0 (a.e - E).toNat; have eb := sO h1 (b.e - E).toNat; have pa := FE h0 (a.e - E).toNat; have pb := FE h1 (b.e - E).toNat; change tz (a.dv E) = _ at ea; change tz (b.dv E) = _ at eb; change a.dv E / 2 ^ tz (a.dv E) = _ at pa; change b.dv E / 2 ^ tz (b.dv E) = _ at pb; rw [← pa, ← pb, hv]
  congr 1
  rw [hv] at ea; omega
theorem FH (a b : Dy) {E F : Int} (h : E ≤ F) (ha : F ≤ a.e) (hb : F ≤ b.e) : (nk a b E).plain = (nk a b F).plain := by
 unfold Dy.nk; rw [uo h ha, uo h hb]; have hp := Nat.two_pow_pos (F - E).toNat
 by_cases h1 : a.neg = b.neg
 ·rw [if_pos h1, if_pos h1]; refine mh (E := E) (Int.le_refl _) h rfl ?_; unfold Dy.dv; dsimp only; rw [Int.sub_self]; simp only [Int.toNat_zero, Nat.pow_zero, Nat.mul_one, Nat.add_mul]
 ·rw [if_neg h1, if_neg h1]
  by_cases h2 : b.dv F ≤ a.dv F
  ·rw [if_pos h2, if_pos (Nat.mul_le_mul_right _ h2)]; refine mh (E := E) (Int.le_refl _) h rfl ?_; unfold Dy.dv; dsimp only; rw [Int.sub_self]; simp only [Int.toNat_zero, Nat.pow_zero, Nat.mul_one, Nat.sub_mul]
  ·rw [if_neg h2, if_neg (fun h3 => h2 (Nat.le_of_mul_le_mul_right h3 hp))]; refine mh (E := E) (Int.le_refl _) h rfl ?_; unfold Dy.dv; dsimp only; rw [Int.sub_self]; simp only [Int.toNat_zero, Nat.pow_zero, Nat.mul_one, Nat.sub_mul]
theorem pu {a : Dy} : a.may = true ↔ bu a.n ≤ 4096 ∧ -8192 ≤ a.e ∧ a.e ≤ 8192 := by unfold Dy.may; simp
theorem uq {a : Dy} (h : a.may = true) : bu a.plain.n ≤ 4096 ∧ -8192 ≤ a.plain.e ∧ a.plain.e ≤ 12288 := by
 have := pu.1 h
 by_cases h0 : a.n = 0
 ·rw [fB h0]; simp [Dy.zero, gq]
 ·have h2 := sN h0; have h3 := jV h0; refine ⟨by omega, ?_⟩; rw [gL h0]; dsimp only; omega
theorem told_plain (a : Dy) : told a.plain = told a := by unfold Dy.told; rw [jU]
theorem yU {a b : Dy} (h : a.plain = b.plain) : told a = told b := by rw [← told_plain a, h, told_plain]
open Dy
theorem Dn {l : List Int} {neg : Bool} {e : Int} (h : Dy.may ⟨neg, nv l, e⟩ = true) : Exs e := by have := pu.1 h; unfold Exs; dsimp only at this; omega
def lev (a b : Dy) : Nat × Nat × Int :=
 if a.plain.n = 0 then (0, b.plain.n, b.plain.e) else if b.plain.n = 0 then (a.plain.n, 0, a.plain.e)
 else (a.plain.dv (min a.plain.e b.plain.e), b.plain.dv (min a.plain.e b.plain.e), min a.plain.e b.plain.e)
open Dy
def far (a b : Dy) : Prop := a.n ≠ 0 ∧ b.n ≠ 0 ∧ 8192 < max (a.plain.e + bu a.plain.n) (b.plain.e + bu b.plain.n) - min a.plain.e b.plain.e
instance (a b : Dy) : Decidable (far a b) := by unfold far; infer_instance
open Dy
open Dy
theorem YM (x y k : Nat) : sg (x * 2 ^ k) (y * 2 ^ k) = sg x y := by
 have hp := Nat.two_pow_pos k; unfold sg; have h1 : x * 2 ^ k < y * 2 ^ k ↔ x < y := Nat.mul_lt_mul_right hp; have h2 : y * 2 ^ k < x * 2 ^ k ↔ y < x := Nat.mul_lt_mul_right hp
 by_cases h : x < y
 ·rw [if_pos (h1.2 h), if_pos h]
 ·rw [if_neg (fun e => h (h1.1 e)), if_neg h]
  by_cases g : y < x
  ·rw [if_pos (h2.2 g), if_pos g]
  ·rw [if_neg (fun e => g (h2.1 e)), if_neg g]
theorem WC {a b : Dy} {E F : Int} (h : E ≤ F) (ha : F ≤ a.e) (hb : F ≤ b.e) : sg (a.dv E) (b.dv E) = sg (a.dv F) (b.dv F) := by
 rw [uo h ha, uo h hb, YM]
theorem FI {a b : Dy} (h1 : a.n ≠ 0) (h2 : b.n ≠ 0) : sg (a.plain.dv (min a.plain.e b.plain.e)) (b.plain.dv (min a.plain.e b.plain.e)) = sg (a.dv (min a.e b.e)) (b.dv (min a.e b.e)) := by
 have g1 := jX a h1; have g2 := jX b h2; rw [← WC (a := a.plain) (b := b.plain) (E := min a.e b.e) (by omega) (by omega) (by omega), oG (by omega), oG (by omega)]
theorem lK {a : Dy} (h : a.n ≠ 0) : a.plain.e + bu a.plain.n = a.e + bu a.n := by
 have := sN h
 have e : a.plain.e = a.e + tz a.n := by rw [gL h]
 omega
theorem Pz {a b : Dy} (h1 : a.n ≠ 0) (h2 : b.n ≠ 0) (h : b.e + bu b.n < a.e + bu a.n) : sg (a.dv (min a.e b.e)) (b.dv (min a.e b.e)) = 1 := by
 have l1 : bu (a.dv (min a.e b.e)) = bu a.n + (a.e - min a.e b.e).toNat := ja h1 _; have l2 : bu (b.dv (min a.e b.e)) = bu b.n + (b.e - min a.e b.e).toNat := ja h2 _; refine WF (Nat.lt_of_not_le fun hh => ?_); have := BV hh; omega
theorem Ty {a b : Dy} (h1 : a.n ≠ 0) (h2 : b.n ≠ 0) (h : a.e + bu a.n < b.e + bu b.n) : sg (a.dv (min a.e b.e)) (b.dv (min a.e b.e)) = -1 := by
 rw [Tz, Int.min_comm, Pz h2 h1 h]
theorem Li (x y : Nat) : sg x y = -1 ∨ sg x y = 0 ∨ sg x y = 1 := by unfold sg; split <;> (try split) <;> simp
theorem FJ {a b : Dy} (h1 : a.n ≠ 0) (h2 : b.n ≠ 0) (h3 : a.neg = b.neg) : sgn a b = if a.neg = true then -(sg (a.dv (min a.e b.e)) (b.dv (min a.e b.e))) else sg (a.dv (min a.e b.e)) (b.dv (min a.e b.e)) := by
 unfold Dy.sgn; rw [if_neg (fun e => h1 e.1), if_neg h1, if_neg (by rintro (e | e); exact h2 e; exact e h3)]; rfl
open Dy
theorem TA (a : Dy) (E : Int) : bu (a.dv E) ≤ bu a.n + (a.e - E).toNat := lV _ _
open Dy
open Dy
theorem ND : bu Dy.zero.n = 0 := gq
theorem jJ (a : Dy) : bu a.plain.n ≤ bu a.n := by
 by_cases h : a.n = 0
 ·rw [fB h]; show bu Dy.zero.n ≤ _; rw [ND]; omega
 ·have := sN h; omega
open Dy
theorem ut {d : Dy} (h : d.plain.may = true) : told d = (d.plain, 0) := if_pos h
theorem yV : Dy.zero.plain = Dy.zero := fB rfl
theorem vX {d : Dy} (h : d.n = 0) : told d = (zero, 0) := by
 rw [ut (by rw [fB h]; decide +kernel), fB h]
theorem vY {d : Dy} {k : Nat} (h : bu d.n ≤ k) (hk : k ≤ 4096) (h1 : -8192 ≤ d.e) (h2 : d.e ≤ 8192) : d.may = true := pu.2 ⟨by omega, h1, h2⟩
theorem vZ {d : Dy} (h : bu d.n ≤ 4000) (h1 : -8192 ≤ d.e) (h2 : d.e ≤ 4000) : d.plain.may = true := by
 have := jJ d
 by_cases h0 : d.n = 0
 ·rw [fB h0]; decide +kernel
 ·have ht := jV h0; refine pu.2 ⟨by omega, ?_⟩; rw [gL h0]; dsimp only; omega
end Go.Proofs.Ytkgeihbcikiedaa.N
set_option linter.unusedVariables false
namespace Go.Proofs.Ytkgeihbcikiedaa.N
open Go.RowKit Go.Proofs.Ytkgeihbcikiedaa.P Go.Proofs.YtkgeihbcikiedaaW.PrintWords Go.Proofs.YtkgeihbcikiedaaW.PrintMore Sk
open Dy
def Dy.sv (a : Dy) (E : Int) : Int := if a.neg = true then -(a.dv E : Int) else a.dv E
def Va (a : Dy) (E x : Int) : Prop := (a.n ≠ 0 → E ≤ a.e) ∧ a.sv E = x
theorem Dp {a : Dy} (h : a.n = 0) (E : Int) : a.sv E = 0 := by unfold Dy.sv; rw [um h]; split <;> rfl
theorem ach {a : Dy} (h : a.n ≠ 0) (E : Int) : a.sv E ≠ 0 := by
 have := BU h E
 unfold Dy.sv; split <;> omega
theorem Va.zero {a : Dy} (h : a.n = 0) (E : Int) : Va a E 0 := ⟨fun k => absurd h k, Dp h E⟩
theorem Va.at {a : Dy} {E x : Int} (h : Va a E x) : a.n = 0 ↔ x = 0 := by
 constructor
 ·intro e; rw [← h.2, Dp e]
 ·intro e; by_cases h0 : a.n = 0
  ·exact h0
  ·exact absurd (h.2.trans e) (ach h0 E)
theorem Va.plain {a : Dy} {E x : Int} (h : Va a E x) : Va a.plain E x := by
 by_cases h0 : a.n = 0
 ·rw [fB h0]; have := (h.at).1 h0; subst this; exact Va.zero rfl E
 ·have h1 := h.1 h0; have h2 := jX a h0; refine ⟨fun _ => by omega, ?_⟩; rw [← h.2]; unfold Dy.sv; rw [oG h1, iV h0]
theorem Va.turned {a : Dy} {E x : Int} (h : Va a E x) : Va (Dy.turned a) E (-x) := by
 refine ⟨h.1, ?_⟩; rw [← h.2]; unfold Dy.sv Dy.turned Dy.dv; dsimp only
 cases a.neg <;> simp
theorem Va.sum {a b : Dy} {E x y : Int} (ha : Va a E x) (hb : Va b E y) (h0 : a.n ≠ 0) (h1 : b.n ≠ 0) : Va (Dy.nk a b E) E (x + y) := by
 have e : (Dy.nk a b E).e = E := by unfold Dy.nk; split <;> (try split) <;> rfl
 refine ⟨fun _ => by rw [e]; exact Int.le_refl _, ?_⟩; rw [← ha.2, ← hb.2]; unfold Dy.sv
 have d : (Dy.nk a b E).dv E = (Dy.nk a b E).n := by have := Lh (Dy.nk a b E); rwa [e] at this
 rw [d]; unfold Dy.nk
 by_cases hs : a.neg = b.neg
 ·rw [if_pos hs]; dsimp only; rw [← hs]; split <;> omega
 ·rw [if_neg hs]
  have hn : b.neg = !a.neg := by cases ha' : a.neg <;> cases hb' : b.neg <;> simp_all
  by_cases hl : b.dv E ≤ a.dv E
  ·rw [if_pos hl]; dsimp only; rw [hn]; cases a.neg <;> simp <;> omega
  ·rw [if_neg hl]; dsimp only; rw [hn]; cases a.neg <;> simp <;> omega
theorem Va.told {d : Dy} {E x : Int} (h : Va d E x) (hb : bu x.natAbs ≤ 4096) (h0 : -8192 ≤ E) (h1 : E + bu x.natAbs ≤ 8192) : ∃ r, Dy.told d = (r, 0) ∧ Va r E x ∧ r.may = true ∧ r.plain = r ∧ bu r.n ≤ bu x.natAbs := by
 have key : d.plain.may = true ∧ bu d.plain.n ≤ bu x.natAbs := by
  by_cases hz : d.n = 0
  ·rw [fB hz]; exact ⟨vY (k := 0) (by show bu 0 ≤ 0; rw [gq]; exact Nat.le_refl _) (by omega) (by show -8192 ≤ (0 : Int); omega) (by show (0 : Int) ≤ 8192; omega), by show bu 0 ≤ _; rw [gq]; omega⟩
  ·have hp := h.plain
   have hpn : d.plain.n ≠ 0 := fun e => hz (ik.1 e)
   have he := hp.1 hpn
   have hx : x.natAbs = d.plain.dv E := by rw [← hp.2]; unfold Dy.sv; split <;> omega
   have hl : bu (d.plain.dv E) = bu d.plain.n + (d.plain.e - E).toNat := ja hpn _; rw [hx] at hb h1 ⊢; exact ⟨vY (k := 4096) (by omega) (by omega) (by omega) (by omega), by omega⟩
 exact ⟨d.plain, ut key.1, h.plain, key.1, jU d, key.2⟩
theorem YN {a b : Dy} {E x y : Int} (ma : a.may = true) (mb : b.may = true) (ha : Va a E x) (hb : Va b E y) (hl : bu (x + y).natAbs ≤ 4096) (h0 : -8192 ≤ E) (h1 : E + bu (x + y).natAbs ≤ 8192) :
 ∃ r, Dy.add a b = (r, 0) ∧ Va r E (x + y) ∧ r.may = true ∧ r.plain = r ∧ bu r.n ≤ bu (x + y).natAbs := by
 rw [show Dy.add a b = _ from if_pos ⟨ma, mb⟩]
 by_cases ha0 : a.n = 0
 ·have := (ha.at).1 ha0; subst this; rw [if_pos ha0]; rw [Int.zero_add] at hl h1 ⊢; exact hb.told hl h0 h1
 by_cases hb0 : b.n = 0
 ·have := (hb.at).1 hb0; subst this; rw [if_neg ha0, if_pos hb0]; rw [Int.add_zero] at hl h1 ⊢; exact ha.told hl h0 h1
 rw [if_neg ha0, if_neg hb0]; have ea := ha.1 ha0; have eb := hb.1 hb0; rw [show Dy.told (Dy.sum a b) = Dy.told (Dy.nk a b E) from yU (by rw [I8]; exact (FH a b (E := E) (F := min a.e b.e) (by omega) (by omega) (by omega)).symm)]; exact (ha.sum hb ha0 hb0).told hl h0 h1
def sI (z : Int) : Int := if z < 0 then -1 else if z = 0 then 0 else 1
theorem YO {a b : Dy} {E x y : Int} (ha : Va a E x) (hb : Va b E y) : Dy.sgn a b = sI (x - y) := by
 by_cases hz : a.n = 0 ∧ b.n = 0
 ·rw [show Dy.sgn a b = 0 from if_pos hz, (ha.at).1 hz.1, (hb.at).1 hz.2]; rfl
 by_cases ha0 : a.n = 0
 ·have hb0 : b.n ≠ 0 := fun e => hz ⟨ha0, e⟩
  have := (ha.at).1 ha0; subst this
  have hs : Dy.sgn a b = if b.neg = true then 1 else -1 := by unfold Dy.sgn; rw [if_neg hz, if_pos ha0]
  rw [hs, ← hb.2]; have := BU hb0 E; unfold Dy.sv sI
  by_cases hn : b.neg = true
  ·rw [if_pos hn, if_pos hn, if_neg (by omega), if_neg (by omega)]
  ·rw [if_neg hn, if_neg hn, if_pos (by omega)]
 by_cases h2 : b.n = 0 ∨ a.neg ≠ b.neg
 ·have hs : Dy.sgn a b = if a.neg = true then -1 else 1 := by unfold Dy.sgn; rw [if_neg hz, if_neg ha0, if_pos h2]
  rw [hs, ← ha.2, ← hb.2]; have hda := BU ha0 E
  have hy : (a.neg = true → 0 ≤ b.sv E) ∧ (a.neg = false → b.sv E ≤ 0) := by
   rcases h2 with h | h
   ·rw [Dp h]; exact ⟨fun _ => Int.le_refl _, fun _ => Int.le_refl _⟩
   ·unfold Dy.sv; cases hna : a.neg <;> cases hnb : b.neg <;> simp_all <;> omega
  unfold sI
  by_cases hn : a.neg = true
  ·have h3 : a.sv E = -(a.dv E : Int) := if_pos hn; have := hy.1 hn; rw [if_pos hn, h3, if_pos (by omega)]
  ·have h3 : a.sv E = (a.dv E : Int) := if_neg hn; have := hy.2 (by simpa using hn); rw [if_neg hn, h3, if_neg (by omega), if_neg (by omega)]
 ·have hb0 : b.n ≠ 0 := fun e => h2 (.inl e)
  have h3 : a.neg = b.neg := Classical.byContradiction fun e => h2 (.inr e)
  have ea := ha.1 ha0; have eb := hb.1 hb0; rw [FJ ha0 hb0 h3, ← WC (E := E) (F := min a.e b.e) (by omega) (by omega) (by omega), ← ha.2, ← hb.2]; unfold Dy.sv sI sg; rw [← h3]
  by_cases hn : a.neg = true
  ·simp only [if_pos hn]; split <;> (try split) <;> (try split) <;> (try split) <;> omega
  ·simp only [if_neg hn]; split <;> (try split) <;> (try split) <;> (try split) <;> omega
theorem YP {a b : Dy} {E x y : Int} (ma : a.may = true) (mb : b.may = true) (ha : Va a E x) (hb : Va b E y) : Dy.cmp a b = (sI (x - y), 0) := by
 rw [show Dy.cmp a b = _ from if_pos ⟨ma, mb⟩, YO ha hb]
theorem TC {a b : Dy} {E x : Int} (ma : a.may = true) (mb : b.may = true) (ha : Va a E x) (hb : Va b E x) : Dy.same a b = true := by
 unfold Dy.same; rw [YP ma mb ha hb, Int.sub_self]; rfl
theorem WG {a : Dy} {E : Int} (h : E ≤ a.e) : Va a E (a.sv E) := ⟨fun _ => h, rfl⟩
theorem Lj {a : Dy} {E : Int} (h : E ≤ a.e) : bu (a.sv E).natAbs ≤ bu a.n + (a.e - E).toNat := by
 have : (a.sv E).natAbs = a.dv E := by unfold Dy.sv; split <;> omega
 rw [this]; exact TA a E
theorem NE (x y : Int) : bu (x + y).natAbs ≤ max (bu x.natAbs) (bu y.natAbs) + 1 := by
 have h1 := BV (show (x + y).natAbs ≤ x.natAbs + y.natAbs by omega); have h2 := FL x.natAbs y.natAbs; omega
end Go.Proofs.Ytkgeihbcikiedaa.N
