/- What sums, differences, products and both at once of bits are told to be, for all bits of the three formats. -/
import Derived.Test.YtlaffgojgfdlnaaN48
import Derived.Test.YtlaffgojgfdlnaaPx0
set_option linter.unusedVariables false
namespace Go.Proofs.Ytlaffgojgfdlnaa.N
open Go.RowKit Go.Proofs.Ytlaffgojgfdlnaa.P Go.Proofs.YtlaffgojgfdlnaaW.PrintWords Go.Proofs.YtlaffgojgfdlnaaW.PrintMore Sk
open Dy
/-! ### What ieee's functions tell -/
namespace Fm
/-- Why operands may not be taken. -/
def mayE (f : Fm) (mode : Int) (l : List Nat) : Int := if mode < 0 ∨ 5 ≤ mode then 1 else if l.all (fun b => decide (b < 2 ^ (f.p + f.w))) = true then 0 else 3
/-- The first that is no number, quieted; the flags; whether there is one. -/
def nstep (f : Fm) (r : Nat × Int × Bool) (b : Nat) : Nat × Int × Bool :=
  if f.cl b < 4 then r else (if r.2.2 = true then r.1 else f.qui b, if f.cl b = 5 then 16 else r.2.1, true)
def noneR (f : Fm) (l : List Nat) : Nat × Int × Bool := l.foldl f.nstep (0, 0, false)
def trn (f : Fm) (a : Nat) : Nat := (a % 2 ^ (f.p + f.w)) ^^^ 2 ^ (f.p + f.w - 1)
def sumR (f : Fm) (mode : Int) (a b : Nat) : Nat × Int × Int :=
  if f.cl a = 3 ∧ f.cl b = 3 ∧ a ≠ b then (f.non, 16, 0) else if f.cl a = 3 then (a, 0, 0) else if f.cl b = 3 then (b, 0, 0) else
    f.rto mode (add (f.val a).1 (f.val b).1).1 (if f.cl a = 0 ∧ a = b then f.sn a else decide (mode = 2))
def addR (f : Fm) (mode : Int) (a b : Nat) : Nat × Int × Int :=
  if f.mayE mode [a, b] ≠ 0 then (0, 0, f.mayE mode [a, b]) else if (f.noneR [a, b]).2.2 = true then ((f.noneR [a, b]).1, (f.noneR [a, b]).2.1, 0) else f.sumR mode a b
def subR (f : Fm) (mode : Int) (a b : Nat) : Nat × Int × Int :=
  if f.mayE mode [a, b] ≠ 0 then (0, 0, f.mayE mode [a, b]) else if (f.noneR [a, b]).2.2 = true then ((f.noneR [a, b]).1, (f.noneR [a, b]).2.1, 0) else f.sumR mode a (f.trn b)
def vain (f : Fm) (a b : Nat) : Bool := decide ((f.cl a = 3 ∧ f.cl b = 0) ∨ (f.cl b = 3 ∧ f.cl a = 0))
def mulR (f : Fm) (mode : Int) (a b : Nat) : Nat × Int × Int :=
  if f.mayE mode [a, b] ≠ 0 then (0, 0, f.mayE mode [a, b]) else if (f.noneR [a, b]).2.2 = true then ((f.noneR [a, b]).1, (f.noneR [a, b]).2.1, 0) else
    if f.vain a b = true then (f.non, 16, 0) else if f.cl a = 3 ∨ f.cl b = 3 then (f.inf (f.sn a != f.sn b), 0, 0) else f.rto mode (mul (f.val a).1 (f.val b).1).1 (f.sn a != f.sn b)
def fmaR (f : Fm) (mode : Int) (a b c : Nat) : Nat × Int × Int :=
  if f.mayE mode [a, b, c] ≠ 0 then (0, 0, f.mayE mode [a, b, c]) else
    if (f.noneR [a, b, c]).2.2 = true then ((f.noneR [a, b, c]).1, if f.vain a b = true then 16 else (f.noneR [a, b, c]).2.1, 0) else
    if f.vain a b = true ∨ ((f.cl a = 3 ∨ f.cl b = 3) ∧ f.cl c = 3 ∧ f.sn c ≠ (f.sn a != f.sn b)) then (f.non, 16, 0) else
    if f.cl a = 3 ∨ f.cl b = 3 then (f.inf (f.sn a != f.sn b), 0, 0) else if f.cl c = 3 then (c, 0, 0) else
    f.rto mode (add (mul (f.val a).1 (f.val b).1).1 (f.val c).1).1
      (if (mul (f.val a).1 (f.val b).1).1.n = 0 ∧ (f.val c).1.n = 0 ∧ f.sn c = (f.sn a != f.sn b) then (f.sn a != f.sn b) else decide (mode = 2))
end Fm
end Go.Proofs.Ytlaffgojgfdlnaa.N
