/- Numbers with a sign and an exponent, for all numbers. -/
import Derived.Test.YtkgeihbcikiedaaN7
import Derived.Test.YtkgeihbcikiedaaPx11
import Derived.Test.YtkgeihbcikiedaaPx0
import Derived.Test.YtkgeihbcikiedaaPx1
set_option linter.unusedVariables false
namespace Go.Proofs.Ytkgeihbcikiedaa.N
open Go.RowKit Go.Proofs.Ytkgeihbcikiedaa.P Go.Proofs.YtkgeihbcikiedaaW.PrintWords Go.Proofs.YtkgeihbcikiedaaW.PrintMore Sk
structure Dy where
 neg : Bool
 n : Nat
 e : Int
deriving DecidableEq
namespace Dy
def zero : Dy := ⟨false, 0, 0⟩
def may (a : Dy) : Bool := decide (bT a.n ≤ 4096) && (decide (-8192 ≤ a.e) && decide (a.e ≤ 8192))
def plain (a : Dy) : Dy := if a.n = 0 then zero else ⟨a.neg, a.n / 2 ^ tz a.n, a.e + tz a.n⟩
def told (a : Dy) : Dy × Int := if a.plain.may then (a.plain, 0) else (zero, 6)
def turned (a : Dy) : Dy := ⟨!a.neg, a.n, a.e⟩
def sum (a b : Dy) : Dy :=
 let e := min a.e b.e
 let x := a.n * 2 ^ (a.e - e).toNat
 let y := b.n * 2 ^ (b.e - e).toNat
 if a.neg = b.neg then ⟨a.neg, x + y, e⟩ else if y ≤ x then ⟨a.neg, x - y, e⟩ else ⟨b.neg, y - x, e⟩
def add (a b : Dy) : Dy × Int := if a.may = true ∧ b.may = true then told (if a.n = 0 then b else if b.n = 0 then a else sum a b) else (zero, 3)
def mul (a b : Dy) : Dy × Int := if a.may = true ∧ b.may = true then told ⟨a.neg != b.neg, a.n * b.n, a.e + b.e⟩ else (zero, 3)
def of (n : Int) : Dy := plain ⟨decide (n < 0), n.natAbs, 0⟩
end Dy
theorem O4 {n : Nat} (h : n ≠ 0) : n / 2 ^ tz n % 2 = 1 := by
 obtain ⟨m, e, hm⟩ := um h
 have h2 : n / 2 ^ tz n = m := by
  conv => lhs; arg 1; rw [e]
  exact Nat.mul_div_cancel_left m (Nat.two_pow_pos _)
 rw [h2]; exact hm
theorem IC {n : Nat} (h : n ≠ 0) : n / 2 ^ tz n * 2 ^ tz n = n := Nat.div_mul_cancel (Nat.dvd_of_mod_eq_zero ((O5 h _).2 (Nat.le_refl _)))
theorem gX {a : Dy} (h : a.n ≠ 0) : a.plain = ⟨a.neg, a.n / 2 ^ tz a.n, a.e + tz a.n⟩ := by unfold Dy.plain; rw [if_neg h]
theorem fE {a : Dy} (h : a.n = 0) : a.plain = Dy.zero := by unfold Dy.plain; rw [if_pos h]
theorem jI {a : Dy} : a.plain.n = 0 ↔ a.n = 0 := by
 by_cases h : a.n = 0
 ·rw [fE h]; simp [h, Dy.zero]
 ·rw [gX h]; have := O4 h; simp only [h, iff_false]; intro e; rw [e] at this; simp at this
theorem ML {a : Dy} (h : a.n ≠ 0) : a.plain.n % 2 = 1 := by rw [gX h]; exact O4 h
theorem lS (a : Dy) : a.plain.plain = a.plain := by
 by_cases h : a.n = 0
 ·rw [fE h]; rfl
 ·have h2 : a.plain.n ≠ 0 := fun e => h (jI.1 e)
  rw [gX h2, Df (ML h)]; simp
theorem zg {a : Dy} (h : a.n ≠ 0) : bT a.plain.n + tz a.n = bT a.n := by
 rw [gX h]; dsimp only; rw [uo]; have := pz h; omega
structure Sm (l : List Int) : Prop where
 ok : Ok l
 len : l.length ≤ 1000
theorem Sm.bT {l : List Int} (h : Sm l) : bT (nv l) ≤ 32000 := by have := Tx h.ok; have := h.len; omega
namespace Dy
def dv (a : Dy) (E : Int) : Nat := a.n * 2 ^ (a.e - E).toNat
def nu (a b : Dy) (E : Int) : Dy :=
 if a.neg = b.neg then ⟨a.neg, a.dv E + b.dv E, E⟩ else if b.dv E ≤ a.dv E then ⟨a.neg, a.dv E - b.dv E, E⟩ else ⟨b.neg, b.dv E - a.dv E, E⟩
theorem IE (a b : Dy) : sum a b = nu a b (min a.e b.e) := rfl
end Dy
open Dy
theorem tu {n : Nat} (h : n ≠ 0) (k : Nat) : tz (n * 2 ^ k) = tz n + k := by rw [Nat.mul_comm, tC h, Nat.add_comm]
theorem zh {n : Nat} (h : n ≠ 0) (k : Nat) : n * 2 ^ k ≠ 0 := Nat.mul_ne_zero h (Nat.ne_of_gt (Nat.two_pow_pos k))
theorem Fe {n : Nat} (h : n ≠ 0) (k : Nat) : n * 2 ^ k / 2 ^ tz (n * 2 ^ k) = n / 2 ^ tz n := by
 rw [tu h, Nat.pow_add, Nat.mul_div_mul_right _ _ (Nat.two_pow_pos k)]
theorem KE {a : Dy} (h : a.n ≠ 0) (E : Int) : a.dv E ≠ 0 := zh h _
theorem uq {a : Dy} (h : a.n = 0) (E : Int) : a.dv E = 0 := by unfold Dy.dv; rw [h, Nat.zero_mul]
theorem YE {a : Dy} {E : Int} : a.dv E = 0 ↔ a.n = 0 := ⟨fun e => Classical.byContradiction fun h => KE h E e, fun e => uq e E⟩
theorem Dh {a : Dy} {E F : Int} (h : E ≤ F) (hF : F ≤ a.e) : a.dv E = a.dv F * 2 ^ (F - E).toNat := by
 unfold Dy.dv; rw [Nat.mul_assoc, ← Nat.pow_add]; congr 2; omega
theorem KF (a : Dy) : a.dv a.e = a.n := by unfold Dy.dv; rw [Int.sub_self]; simp
theorem ut {a : Dy} {E : Int} (h : E ≤ a.e) : a.plain.dv E = a.dv E := by
 by_cases h0 : a.n = 0
 ·rw [uq h0, uq (jI.2 h0)]
 ·rw [gX h0]; unfold Dy.dv; dsimp only; rw [show (a.e + (tz a.n : Int) - E).toNat = tz a.n + (a.e - E).toNat by omega, Nat.pow_add, ← Nat.mul_assoc, IC h0]
theorem lm (a : Dy) (h : a.n ≠ 0) : a.e ≤ a.plain.e := by rw [gX h]; dsimp only; omega
theorem oM {a : Dy} (h : a.n ≠ 0) : a.plain.neg = a.neg := by rw [gX h]
theorem lT {a b : Dy} {E : Int} (ha : E ≤ a.e) (hb : E ≤ b.e) (hn : a.neg = b.neg) (hv : a.dv E = b.dv E) : a.plain = b.plain := by
 by_cases h0 : a.n = 0
 ·have h1 : b.n = 0 := by rw [← YE (E := E), ← hv, uq h0]
  rw [fE h0, fE h1]
 ·have h1 : b.n ≠ 0 := by rw [Ne, ← YE (E := E), ← hv, YE]; exact h0
  rw [gX h0, gX h1, hn]; have ea := tu h0 (a.e - E).toNat; have eb := tu h1 (b.e - E).toNat; have pa := Fe h0 (a.e - E).toNat; have pb := Fe h1 (b.e - E).toNat; change tz (a.dv E) = _ at ea; change tz (b.dv E) = _ at eb; change a.dv E / 2 ^ tz (a.dv E) = _ at pa; change b.dv E / 2 ^ tz (b.dv E) = _ at pb; rw [← pa, ← pb, hv]
  congr 1
  rw [hv] at ea; omega
theorem Ff (a b : Dy) {E F : Int} (h : E ≤ F) (ha : F ≤ a.e) (hb : F ≤ b.e) : (nu a b E).plain = (nu a b F).plain := by
 unfold Dy.nu; rw [Dh h ha, Dh h hb]; have hp := Nat.two_pow_pos (F - E).toNat
 by_cases h1 : a.neg = b.neg
 ·rw [if_pos h1, if_pos h1]; refine lT (E := E) (Int.le_refl _) h rfl ?_; unfold Dy.dv; dsimp only; rw [Int.sub_self]; simp only [Int.toNat_zero, Nat.pow_zero, Nat.mul_one, Nat.add_mul]
 ·rw [if_neg h1, if_neg h1]
  by_cases h2 : b.dv F ≤ a.dv F
  ·rw [if_pos h2, if_pos (Nat.mul_le_mul_right _ h2)]; refine lT (E := E) (Int.le_refl _) h rfl ?_; unfold Dy.dv; dsimp only; rw [Int.sub_self]; simp only [Int.toNat_zero, Nat.pow_zero, Nat.mul_one, Nat.sub_mul]
  ·rw [if_neg h2, if_neg (fun h3 => h2 (Nat.le_of_mul_le_mul_right h3 hp))]; refine lT (E := E) (Int.le_refl _) h rfl ?_; unfold Dy.dv; dsimp only; rw [Int.sub_self]; simp only [Int.toNat_zero, Nat.pow_zero, Nat.mul_one, Nat.sub_mul]
theorem Di {a : Dy} : a.may = true ↔ bT a.n ≤ 4096 ∧ -8192 ≤ a.e ∧ a.e ≤ 8192 := by unfold Dy.may; simp
theorem told_plain (a : Dy) : told a.plain = told a := by unfold Dy.told; rw [lS]
theorem zi {a b : Dy} (h : a.plain = b.plain) : told a = told b := by rw [← told_plain a, h, told_plain]
open Dy
open Dy
def far (a b : Dy) : Prop := a.n ≠ 0 ∧ b.n ≠ 0 ∧ 8192 < max (a.plain.e + bT a.plain.n) (b.plain.e + bT b.plain.n) - min a.plain.e b.plain.e
instance (a b : Dy) : Decidable (far a b) := by unfold far; infer_instance
open Dy
open Dy
theorem oN {a : Dy} (h : a.n ≠ 0) : a.plain.e + bT a.plain.n = a.e + bT a.n := by
 have := zg h
 have e : a.plain.e = a.e + tz a.n := by rw [gX h]
 omega
open Dy
theorem Ty (a : Dy) (E : Int) : bT (a.dv E) ≤ bT a.n + (a.e - E).toNat := sF _ _
open Dy
open Dy
theorem MM : bT Dy.zero.n = 0 := iw
theorem ol (a : Dy) : bT a.plain.n ≤ bT a.n := by
 by_cases h : a.n = 0
 ·rw [fE h]; show bT Dy.zero.n ≤ _; rw [MM]; omega
 ·have := zg h; omega
open Dy
theorem uu {d : Dy} (h : d.plain.may = true) : told d = (d.plain, 0) := if_pos h
theorem zk : Dy.zero.plain = Dy.zero := fE rfl
theorem vY {d : Dy} (h : d.n = 0) : told d = (zero, 0) := by
 rw [uu (by rw [fE h]; decide +kernel), fE h]
theorem zl {d : Dy} {k : Nat} (h : bT d.n ≤ k) (hk : k ≤ 4096) (h1 : -8192 ≤ d.e) (h2 : d.e ≤ 8192) : d.may = true := Di.2 ⟨by omega, h1, h2⟩
theorem vZ {d : Dy} (h : bT d.n ≤ 4000) (h1 : -8192 ≤ d.e) (h2 : d.e ≤ 4000) : d.plain.may = true := by
 have := ol d
 by_cases h0 : d.n = 0
 ·rw [fE h0]; decide +kernel
 ·have ht := pz h0; refine Di.2 ⟨by omega, ?_⟩; rw [gX h0]; dsimp only; omega
end Go.Proofs.Ytkgeihbcikiedaa.N
set_option linter.unusedVariables false
namespace Go.Proofs.Ytkgeihbcikiedaa.N
open Go.RowKit Go.Proofs.Ytkgeihbcikiedaa.P Go.Proofs.YtkgeihbcikiedaaW.PrintWords Go.Proofs.YtkgeihbcikiedaaW.PrintMore Sk
open Dy
def Dy.sv (a : Dy) (E : Int) : Int := if a.neg = true then -(a.dv E : Int) else a.dv E
def Va (a : Dy) (E x : Int) : Prop := (a.n ≠ 0 → E ≤ a.e) ∧ a.sv E = x
theorem KG {a : Dy} (h : a.n = 0) (E : Int) : a.sv E = 0 := by unfold Dy.sv; rw [uq h]; split <;> rfl
theorem ack {a : Dy} (h : a.n ≠ 0) (E : Int) : a.sv E ≠ 0 := by
 have := KE h E
 unfold Dy.sv; split <;> omega
theorem Va.zero {a : Dy} (h : a.n = 0) (E : Int) : Va a E 0 := ⟨fun k => absurd h k, KG h E⟩
theorem Va.at {a : Dy} {E x : Int} (h : Va a E x) : a.n = 0 ↔ x = 0 := by
 constructor
 ·intro e; rw [← h.2, KG e]
 ·intro e; by_cases h0 : a.n = 0
  ·exact h0
  ·exact absurd (h.2.trans e) (ack h0 E)
theorem Va.plain {a : Dy} {E x : Int} (h : Va a E x) : Va a.plain E x := by
 by_cases h0 : a.n = 0
 ·rw [fE h0]; have := (h.at).1 h0; subst this; exact Va.zero rfl E
 ·have h1 := h.1 h0; have h2 := lm a h0; refine ⟨fun _ => by omega, ?_⟩; rw [← h.2]; unfold Dy.sv; rw [ut h1, oM h0]
theorem Va.turned {a : Dy} {E x : Int} (h : Va a E x) : Va (Dy.turned a) E (-x) := by
 refine ⟨h.1, ?_⟩; rw [← h.2]; unfold Dy.sv Dy.turned Dy.dv; dsimp only
 cases a.neg <;> simp
theorem Va.sum {a b : Dy} {E x y : Int} (ha : Va a E x) (hb : Va b E y) (h0 : a.n ≠ 0) (h1 : b.n ≠ 0) : Va (Dy.nu a b E) E (x + y) := by
 have e : (Dy.nu a b E).e = E := by unfold Dy.nu; split <;> (try split) <;> rfl
 refine ⟨fun _ => by rw [e]; exact Int.le_refl _, ?_⟩; rw [← ha.2, ← hb.2]; unfold Dy.sv
 have d : (Dy.nu a b E).dv E = (Dy.nu a b E).n := by have := KF (Dy.nu a b E); rwa [e] at this
 rw [d]; unfold Dy.nu
 by_cases hs : a.neg = b.neg
 ·rw [if_pos hs]; dsimp only; rw [← hs]; split <;> omega
 ·rw [if_neg hs]
  have hn : b.neg = !a.neg := by cases ha' : a.neg <;> cases hb' : b.neg <;> simp_all
  by_cases hl : b.dv E ≤ a.dv E
  ·rw [if_pos hl]; dsimp only; rw [hn]; cases a.neg <;> simp <;> omega
  ·rw [if_neg hl]; dsimp only; rw [hn]; cases a.neg <;> simp <;> omega
theorem Va.told {d : Dy} {E x : Int} (h : Va d E x) (hb : bT x.natAbs ≤ 4096) (h0 : -8192 ≤ E) (h1 : E + bT x.natAbs ≤ 8192) : ∃ r, Dy.told d = (r, 0) ∧ Va r E x ∧ r.may = true ∧ r.plain = r ∧ bT r.n ≤ bT x.natAbs := by
 have key : d.plain.may = true ∧ bT d.plain.n ≤ bT x.natAbs := by
  by_cases hz : d.n = 0
  ·rw [fE hz]; exact ⟨zl (k := 0) (by show bT 0 ≤ 0; rw [iw]; exact Nat.le_refl _) (by omega) (by show -8192 ≤ (0 : Int); omega) (by show (0 : Int) ≤ 8192; omega), by show bT 0 ≤ _; rw [iw]; omega⟩
  ·have hp := h.plain
   have hpn : d.plain.n ≠ 0 := fun e => hz (jI.1 e)
   have he := hp.1 hpn
   have hx : x.natAbs = d.plain.dv E := by rw [← hp.2]; unfold Dy.sv; split <;> omega
   have hl : bT (d.plain.dv E) = bT d.plain.n + (d.plain.e - E).toNat := kF hpn _; rw [hx] at hb h1 ⊢; exact ⟨zl (k := 4096) (by omega) (by omega) (by omega) (by omega), by omega⟩
 exact ⟨d.plain, uu key.1, h.plain, key.1, lS d, key.2⟩
theorem YF {a b : Dy} {E x y : Int} (ma : a.may = true) (mb : b.may = true) (ha : Va a E x) (hb : Va b E y) (hl : bT (x + y).natAbs ≤ 4096) (h0 : -8192 ≤ E) (h1 : E + bT (x + y).natAbs ≤ 8192) :
 ∃ r, Dy.add a b = (r, 0) ∧ Va r E (x + y) ∧ r.may = true ∧ r.plain = r ∧ bT r.n ≤ bT (x + y).natAbs := by
 rw [show Dy.add a b = _ from if_pos ⟨ma, mb⟩]
 by_cases ha0 : a.n = 0
 ·have := (ha.at).1 ha0; subst this; rw [if_pos ha0]; rw [Int.zero_add] at hl h1 ⊢; exact hb.told hl h0 h1
 by_cases hb0 : b.n = 0
 ·have := (hb.at).1 hb0; subst this; rw [if_neg ha0, if_pos hb0]; rw [Int.add_zero] at hl h1 ⊢; exact ha.told hl h0 h1
 rw [if_neg ha0, if_neg hb0]; have ea := ha.1 ha0; have eb := hb.1 hb0; rw [show Dy.told (Dy.sum a b) = Dy.told (Dy.nu a b E) from zi (by rw [IE]; exact (Ff a b (E := E) (F := min a.e b.e) (by omega) (by omega) (by omega)).symm)]; exact (ha.sum hb ha0 hb0).told hl h0 h1
theorem Wo {a : Dy} {E : Int} (h : E ≤ a.e) : Va a E (a.sv E) := ⟨fun _ => h, rfl⟩
theorem KH {a : Dy} {E : Int} (h : E ≤ a.e) : bT (a.sv E).natAbs ≤ bT a.n + (a.e - E).toNat := by
 have : (a.sv E).natAbs = a.dv E := by unfold Dy.sv; split <;> omega
 rw [this]; exact Ty a E
theorem MN (x y : Int) : bT (x + y).natAbs ≤ max (bT x.natAbs) (bT y.natAbs) + 1 := by
 have h1 := MO (show (x + y).natAbs ≤ x.natAbs + y.natAbs by omega); have h2 := Fg x.natAbs y.natAbs; omega
end Go.Proofs.Ytkgeihbcikiedaa.N
