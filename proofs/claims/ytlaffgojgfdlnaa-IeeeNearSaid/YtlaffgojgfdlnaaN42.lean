/- The three formats: a number's bits come back, sizes go as bits do, and the next number is one place away, for all bits. -/
import Derived.Test.YtlaffgojgfdlnaaN41
import Derived.Test.YtlaffgojgfdlnaaPx0
set_option linter.unusedVariables false
namespace Go.Proofs.Ytlaffgojgfdlnaa.N
open Go.RowKit Go.Proofs.Ytlaffgojgfdlnaa.P Go.Proofs.YtlaffgojgfdlnaaW.PrintWords Go.Proofs.YtlaffgojgfdlnaaW.PrintMore Sk
open Dy
/-! ### Formats: numbers there and back, in order -/
namespace Fm
section
variable {f : Fm} {b : Nat}
theorem pp (h : f.ok) : 2 ^ f.p = 2 * 2 ^ (f.p - 1) := by have := bounds h; rw [← Nat.pow_succ']; congr 1; omega
/-- What is put of a number that is given by so many places. -/
theorem put_of (h : f.ok) {a : Dy} (ma : a.may = true) {s : Bool} {m : Nat} {E : Int} (hp : a.plain = (⟨s, m, f.low + E - 1⟩ : Dy).plain) (h0 : m ≠ 0) (hm : m < 2 ^ f.p) (h1 : 1 ≤ E) (h2 : E = 1 ∨ 2 ^ (f.p - 1) ≤ m) (h3 : E < ((2 ^ f.w : Nat) : Int) - 1) :
    f.put a = (f.bld s (if m < 2 ^ (f.p - 1) then 0 else E.toNat) (m % 2 ^ (f.p - 1)), 0) := by
  have hB := bounds h
  obtain ⟨c, hc⟩ : ∃ c, c = (⟨s, m, f.low + E - 1⟩ : Dy) := ⟨_, rfl⟩
  rw [← hc] at hp
  have c0 : c.n ≠ 0 := by rw [hc]; exact h0
  have a0 : a.n ≠ 0 := fun e => c0 (plain_n.1 (by rw [← hp]; exact plain_n.2 e))
  have e1 : a.neg = s := by rw [← plain_neg a0, hp, plain_neg c0, hc]
  have e2 := top_plain c0
  have e3 := plain_e_ge c c0
  have e4 : c.e = f.low + E - 1 := by rw [hc]
  have e5 : c.n = m := by rw [hc]
  have nm := nlen_le_iff.2 hm
  have fe_eq : f.fe a.plain = E := by
    unfold fe
    rw [hp]
    rcases h2 with h2 | h2
    · rw [e5] at e2; omega
    · have : f.p ≤ nlen m := by
        apply Classical.byContradiction; intro k
        have := nlen_le_iff.1 (show nlen m ≤ f.p - 1 by omega); omega
      rw [e5] at e2; omega
  have dv_eq : a.plain.n * 2 ^ (a.plain.e - (f.low + E - 1)).toNat = m := by
    have := dv_plain (a := c) (E := c.e) (Int.le_refl _)
    rw [dv_self, e5] at this
    rw [hp, ← e4]; exact this
  unfold put
  rw [if_pos ma, if_neg a0, fe_eq, dv_eq, if_neg (by rw [hp]; omega), e1]
/-- The size in units of the least place. -/
def sz (f : Fm) (b : Nat) : Nat := f.mg b * 2 ^ (f.ex b - 1)
theorem pl_eq (b : Nat) : f.pl b = f.low + ((f.ex b - 1 : Nat) : Int) := by unfold pl; split <;> omega
theorem sz_step (h : f.ok) (hb : b + 1 < 2 ^ (f.p + f.w - 1)) : f.sz (b + 1) = f.sz b + 2 ^ (f.ex b - 1) := by
  have hB := bounds h
  obtain ⟨M, hM⟩ : ∃ M, M = 2 ^ (f.p - 1) := ⟨_, rfl⟩
  have hM0 : 0 < M := by rw [hM]; exact Nat.two_pow_pos _
  have hw : 2 ^ (f.p + f.w - 1) = M * 2 ^ f.w := by rw [hM, ← Nat.pow_add]; congr 1; omega
  have key : ∀ c, c < 2 ^ (f.p + f.w - 1) → f.ex c = c / M := by
    intro c hc; unfold ex; rw [← hM]; apply Nat.mod_eq_of_lt; rw [Nat.div_lt_iff_lt_mul hM0, Nat.mul_comm, ← hw]; exact hc
  have k1 := key b (by omega)
  have k2 := key (b + 1) hb
  unfold sz mg
  by_cases hc : b % M + 1 < M
  · have x1 := Nat.div_add_mod b M
    have d1 : (b + 1) / M = b / M := by
      rw [Nat.div_eq_iff hM0]
      have : M * (b / M) = b / M * M := Nat.mul_comm _ _
      omega
    have e1 : f.fr (b + 1) = f.fr b + 1 := by
      unfold fr; rw [← hM]
      have x2 := Nat.div_add_mod (b + 1) M
      rw [d1] at x2; omega
    rw [k2, d1, ← k1, e1]
    split
    · rename_i hz; rw [hz]; simp
    · rw [show f.fr b + 1 + 2 ^ (f.p - 1) = (f.fr b + 2 ^ (f.p - 1)) + 1 by omega, Nat.add_mul, Nat.one_mul]
  · have hl := Nat.mod_lt b hM0
    have x1 := Nat.div_add_mod b M
    have e0 : b + 1 = M * (b / M + 1) := by rw [Nat.mul_add, Nat.mul_one]; omega
    have d1 : (b + 1) / M = b / M + 1 := by rw [e0, Nat.mul_div_cancel_left _ hM0]
    have e1 : f.fr (b + 1) = 0 := by unfold fr; rw [← hM, e0, Nat.mul_mod_right]
    have e2 : f.fr b = M - 1 := by unfold fr; rw [← hM]; omega
    rw [k2, d1, ← k1, e1, e2, if_neg (by omega), ← hM, Nat.zero_add, Nat.add_sub_cancel]
    split
    · rename_i hz; rw [hz]; simp; omega
    · rename_i hz
      rw [← Nat.succ_mul, show (M - 1 + M).succ = 2 * M by omega, Nat.mul_assoc, Nat.mul_left_comm, ← Nat.pow_succ']
      congr 2; omega
theorem sz_lt (h : f.ok) {a : Nat} : ∀ {b : Nat}, a < b → b < 2 ^ (f.p + f.w - 1) → f.sz a < f.sz b := by
  intro b
  induction b with
  | zero => intro k; omega
  | succ b ih =>
    intro hab hb
    have := sz_step h hb
    have hp := Nat.two_pow_pos (f.ex b - 1)
    by_cases e : a = b
    · subst e; omega
    · have := ih (by omega) (by omega); omega
theorem half_lt (h : f.ok) : 2 ^ (f.p + f.w - 1) < 2 ^ (f.p + f.w) := Nat.pow_lt_pow_right (by omega) (by have := bounds h; omega)
theorem val_cases (b : Nat) : (f.val b = (Dy.zero, 3) ∧ 2 ^ (f.p + f.w) ≤ b) ∨ (f.val b = (Dy.zero, 1) ∧ b < 2 ^ (f.p + f.w) ∧ 2 < f.cl b) ∨ (f.val b = ((f.raw b).plain, 0) ∧ b < 2 ^ (f.p + f.w) ∧ f.cl b ≤ 2) := by
  unfold val
  by_cases h1 : 2 ^ (f.p + f.w) ≤ b
  · exact .inl ⟨if_pos h1, h1⟩
  · rw [if_neg h1]
    by_cases h2 : 2 < f.cl b
    · exact .inr (.inl ⟨if_pos h2, by omega, h2⟩)
    · exact .inr (.inr ⟨if_neg h2, by omega, by omega⟩)
theorem ex_cl (hc : f.cl b ≤ 2) (hf : f.ok) : f.ex b < 2 ^ f.w - 1 := by
  have := bounds hf
  apply Classical.byContradiction; intro k
  unfold cl at hc
  rw [if_neg (by omega), if_neg k] at hc; split at hc <;> (try split at hc) <;> omega
theorem mg_zero : f.mg b = 0 ↔ f.cl b = 0 := by
  unfold mg cl
  have := Nat.two_pow_pos (f.p - 1)
  by_cases h1 : f.ex b = 0
  · rw [if_pos h1, if_pos h1]; split <;> omega
  · rw [if_neg h1, if_neg h1]; split <;> (try split) <;> (try split) <;> omega
end
end Fm
end Go.Proofs.Ytlaffgojgfdlnaa.N
