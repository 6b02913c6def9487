/- The contracts that the law calls (the law's own questions, references 8 and 18, and UnpackTells where it is used), for all words of the three formats. -/
import Derived.Test.YtkgeihbcikiedaaS70
set_option linter.unusedVariables false
set_option linter.unusedSimpArgs false
set_option linter.constructorNameAsVariable false
set_option linter.unusedSectionVars false
set_option maxRecDepth 100000
set_option maxHeartbeats 8000000
namespace Go.Proofs.Ytkgeihbcikiedaa.A
open Go.RowKit Go.Proofs.Ytkgeihbcikiedaa.P Go.Proofs.YtkgeihbcikiedaaW.PrintWords Go.Proofs.YtkgeihbcikiedaaW.PrintMore Go.Proofs.Ytkgeihbcikiedaa.N Sk Dy
theorem LX {x : Int} (h : (Lit.int .u64 x).wf = true) : ∃ n : Nat, x = n ∧ n < 2 ^ 64 := by
 have := wf_u64 h; exact ⟨x.toNat, by omega, by omega⟩
theorem Gy {n : Nat} (h : n < 2 ^ 64) : (parts n).length ≤ 100000000 := Nat.le_trans (fP (k := 2) (by simpa using h)) (by decide)
theorem wO {n : Nat} (h : n < 2 ^ 64) : Snd Try.prog 11 [.a (uA n)] (.a (bA n)) := by
 have := oF (n := (n : Int)) (by omega) (by omega)
 rwa [Int.toNat_natCast] at this
theorem D6 {n : Nat} (h : n < 2 ^ 64) : Snd Try.prog 10 [.a (.v .u32 (parts n)), .a (bA n)] (.a (.b true)) :=
 (uj (n := n) (Gy h) (Nat.le_trans (iw h) (by decide))).to (r' := .a (.b true)) (by rw [decide_eq_true rfl])
section
variable {f : Fm} (h : f.ok)
include h
theorem JO (x : Nat) : exq f x < 2 ^ 64 := by
 have hB := Fm.bounds h; have h1 := Fm.nN (f := f) (b := x); have h2 : 2 ^ f.w ≤ 2 ^ 63 := Nat.pow_le_pow_right (by omega) (by omega)
 unfold exq; split <;> omega
theorem D7 (x : Nat) : f.mg x < 2 ^ 64 := by
 have hB := Fm.bounds h; have h1 := Fm.oD h (b := x); have h2 : 2 ^ (f.p - 1) ≤ 2 ^ 62 := Nat.pow_le_pow_right (by omega) (by omega)
 unfold Fm.mg; split <;> omega
omit h in
theorem Cj (b : Bool) : bN b ≤ 1 := by cases b <;> decide
omit h in
theorem QF (x : Nat) : zf f x < 32 := by
 unfold zf; have h1 := Cj (f.sn x); have h2 := Cj (decide (f.cl x = 0)); have h3 := Cj (decide (f.cl x = 3)); have h4 := Cj (decide (4 ≤ f.cl x)); have h5 := Cj (decide (f.cl x = 5)); omega
theorem Vn (x : Nat) : bv [((sb f x : Nat) : Int) == 1, ((f.cl x : Nat) : Int) == 0, ((f.cl x : Nat) : Int) == 3, decide (4 ≤ ((f.cl x : Nat) : Int)), ((f.cl x : Nat) : Int) == 5] = zf f x := by
 have e : ∀ k : Nat, (((f.cl x : Nat) : Int) == (k : Int)) = decide (f.cl x = k) := fun k => by
  rw [Bool.eq_iff_iff, beq_iff_eq, decide_eq_true_eq]; omega
 rw [Le, adg h, show ((0 : Int)) = ((0 : Nat) : Int) from rfl, show ((3 : Int)) = ((3 : Nat) : Int) from rfl, show ((5 : Int)) = ((5 : Nat) : Int) from rfl, e, e, e]; unfold zf
 congr 4
 exact decide_eq_decide.2 (by omega)
end
theorem unpackTells_law (bits x : Int) (hbits : (Lit.int .i64 bits).wf = true) (hx : (Lit.int .u64 x).wf = true) : Snd Try.prog 3 [.a (iA bits), .a (.i .u64 x)] (.a (.b true)) := by
 obtain ⟨b, rfl, hb⟩ := LX hx; refine gD kN mixed Try.func3 Try.ntmps3 rfl (by kernel_rfl) rfl ?_
 cases hf : Bu bits with
 | none =>
  have c := Lf bits b hf
  repeat (conv => whnf); first | refine dO ?_ | refine dP ?_ | refine ⟨_, jT, ?_⟩ | refine ⟨_, c, ?_⟩ | refine And.intro (by kernel_rfl) ?_ | refine And.intro (by decide) ?_
  rfl
 | some f =>
  obtain ⟨h, hbt⟩ := Dl hf; have c := Lg hf hb
  by_cases hc : 2 ^ (f.p + f.w) ≤ b
  ·rw [decide_eq_true hc] at c
   repeat (conv => whnf); first | refine dO ?_ | refine dP ?_ | refine ⟨_, jT, ?_⟩ | refine ⟨_, c, ?_⟩ | refine And.intro (by kernel_rfl) ?_ | refine And.intro (by decide) ?_
   rfl
  ·rw [decide_eq_false hc] at c; have p1 := rD h (x := b) (by omega); have p2 := NB h hb; have p3 := NA (((sb f b : Nat) : Int) == 1) (((f.cl b : Nat) : Int) == 0) (((f.cl b : Nat) : Int) == 3) (decide (4 ≤ ((f.cl b : Nat) : Int))) (((f.cl b : Nat) : Int) == 5); rw [Vn h] at p3; have w1 := wO (JO h b); have w2 := wO (D7 h b); have w3 := wO (n := zf f b) (Nat.lt_of_lt_of_le (QF b) (by decide)); have i1 := D6 (JO h b); have i2 := D6 (D7 h b); have i3 := D6 (n := zf f b) (Nat.lt_of_lt_of_le (QF b) (by decide))
   have z0 : 0 ≤ (0 : Int) ∧ (0 : Int) < (([parts (exq f b), parts (f.mg b), parts (zf f b)] : List (List Int)).length : Int) := ⟨by omega, by simp⟩
   have z1 : 0 ≤ (1 : Int) ∧ (1 : Int) < (([parts (exq f b), parts (f.mg b), parts (zf f b)] : List (List Int)).length : Int) := ⟨by omega, by simp⟩
   have z2 : 0 ≤ (2 : Int) ∧ (2 : Int) < (([parts (exq f b), parts (f.mg b), parts (zf f b)] : List (List Int)).length : Int) := ⟨by omega, by simp⟩
   repeat (conv => whnf); first | refine dO ?_ | refine dP ?_ | refine ⟨_, jT, ?_⟩ | refine ⟨_, c, ?_⟩ | refine ⟨_, p1, ?_⟩ | refine ⟨_, p2, ?_⟩ | refine ⟨_, p3, ?_⟩ | refine ⟨_, w1, ?_⟩ | refine ⟨_, w2, ?_⟩ | refine ⟨_, w3, ?_⟩ | refine ⟨_, i1, ?_⟩ | refine ⟨_, i2, ?_⟩ | refine ⟨_, i3, ?_⟩ | refine And.intro z0 ?_ | refine And.intro z1 ?_ | refine And.intro z2 ?_ | refine And.intro (by kernel_rfl) ?_ | refine And.intro (by decide) ?_
   rfl
end Go.Proofs.Ytkgeihbcikiedaa.A
