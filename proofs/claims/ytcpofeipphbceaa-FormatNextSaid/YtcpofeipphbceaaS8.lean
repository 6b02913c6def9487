/- The law DyadOrder answers true, at every input of its types. -/
import Derived.Test.YtcpofeipphbceaaS7
import Derived.Test.YtcpofeipphbceaaN21
set_option linter.unusedVariables false
set_option linter.unusedSimpArgs false
set_option linter.constructorNameAsVariable false
set_option maxRecDepth 100000
set_option maxHeartbeats 4000000
namespace Go.Proofs.Ytcpofeipphbceaa.A
open Go.RowKit Go.Proofs.Ytcpofeipphbceaa.P Go.Proofs.YtcpofeipphbceaaW.PrintWords Go.Proofs.YtcpofeipphbceaaW.PrintMore Go.Proofs.Ytcpofeipphbceaa.N Sk Dy
theorem dadd_snd2 {a b : Dy} (ha : Few a.n) (hb : Few b.n) : Snd Try.prog 63 [.g (dA a), .g (dA b)] (rA (Dy.add a b)) := by
  have := dadd_snd (na := a.neg) (nb := b.neg) (ea := a.e) (eb := b.e) (few_ok ha).1 (few_ok hb).1 (few_ok ha).2 (few_ok hb).2
  rwa [nv_parts, nv_parts] at this
theorem dcmp_snd2 {a b : Dy} (ha : Few a.n) (hb : Few b.n) : Snd Try.prog 37 [.g (dA a), .g (dA b)] (cA (Dy.cmp a b)) := by
  have := dcmp_snd (na := a.neg) (nb := b.neg) (ea := a.e) (eb := b.e) (few_ok ha).1 (few_ok hb).1 (few_ok ha).2 (few_ok hb).2
  rwa [nv_parts, nv_parts] at this
/-- A number of at most 20 parts and an exponent from -1000 to 1000: its value. -/
theorem val_of {neg : Bool} {l : List Int} {e : Int} (h : Ok l) (hl : l.length ≤ 20) (h1 : -1000 ≤ e) (h2 : e ≤ 1000) :
    ∃ x : Int, Va ⟨neg, nv l, e⟩ (-1000) x ∧ nlen x.natAbs ≤ 2640 ∧ (⟨neg, nv l, e⟩ : Dy).may = true := by
  have hn := nlen_nv h
  refine ⟨_, va_of (a := ⟨neg, nv l, e⟩) h1, ?_, may_of (k := 640) (by dsimp only; omega) (by omega) (by dsimp only; omega) (by dsimp only; omega)⟩
  have := sv_nlen (a := ⟨neg, nv l, e⟩) (E := -1000) h1
  dsimp only at this
  omega
theorem sI_cases (z : Int) : sI z = -1 ∨ sI z = 0 ∨ sI z = 1 := by unfold sI; split <;> (try split) <;> simp
theorem sI_neg (z : Int) : sI (-z) = -sI z := by unfold sI; split <;> (try split) <;> (try split) <;> (try split) <;> omega
end Go.Proofs.Ytcpofeipphbceaa.A
