import Derived.Test.YtlapfomfnmccgaaN43
import Derived.Test.YtlapfomfnmccgaaPx0
set_option linter.unusedVariables false
namespace Go.Proofs.Ytlapfomfnmccgaa.N
open Go.RowKit Go.Proofs.Ytlapfomfnmccgaa.P Go.Proofs.YtlapfomfnmccgaaW.PrintWords Go.Proofs.YtlapfomfnmccgaaW.PrintMore Sk
open Dy
/-! ### A number of few digits as bits -/
namespace Fm
section
variable {f : Fm} {b : Nat}
/-- Above all sizes, in least places. -/
def ov (f : Fm) : Nat := f.p + 2 ^ f.w - 3
theorem cl_bld (h : f.ok) {neg : Bool} {e x : Nat} (he : e < 2 ^ f.w - 1) (hx : x < 2 ^ (f.p - 1)) : f.cl (f.bld neg e x) ≤ 2 := by
  obtain ⟨_, h2, h3⟩ := bld_parts h (neg := neg) (show e < 2 ^ f.w by omega) hx
  unfold cl; rw [h2, h3]; split <;> (try split) <;> omega
theorem sz_bld (h : f.ok) {neg : Bool} {e x : Nat} (he : e < 2 ^ f.w) (hx : x < 2 ^ (f.p - 1)) : f.sz (f.bld neg e x) = if e = 0 then x else (x + 2 ^ (f.p - 1)) * 2 ^ (e - 1) := by
  obtain ⟨_, h2, h3⟩ := bld_parts h (neg := neg) he hx
  unfold sz mg; rw [h2, h3]
  by_cases h0 : e = 0
  · rw [if_pos h0, if_pos h0, h0]; simp
  · rw [if_neg h0, if_neg h0]
/-- What can't be put, being beyond. -/
theorem put_over (h : f.ok) {a : Dy} (ma : a.may = true) {s : Bool} {m : Nat} {E : Int} (hp : a.plain = (⟨s, m, f.low + E - 1⟩ : Dy).plain) (h0 : m ≠ 0) (h2 : 2 ^ (f.p - 1) ≤ m) (h3 : ((2 ^ f.w : Nat) : Int) - 1 ≤ E) : f.put a = (0, 10) := by
  have hB := bounds h
  obtain ⟨c, hc⟩ : ∃ c, c = (⟨s, m, f.low + E - 1⟩ : Dy) := ⟨_, rfl⟩
  rw [← hc] at hp
  have c0 : c.n ≠ 0 := by rw [hc]; exact h0
  have a0 : a.n ≠ 0 := fun e => c0 (plain_n.1 (by rw [← hp]; exact plain_n.2 e))
  have e2 := top_plain c0
  have e4 : c.e = f.low + E - 1 := by rw [hc]
  have e5 : c.n = m := by rw [hc]
  have : f.p - 1 < nlen m := nlen_gt_iff.2 h2
  have hfe : ((2 ^ f.w : Nat) : Int) - 1 ≤ f.fe a.plain := by
    unfold fe; rw [hp]; rw [e5] at e2; omega
  unfold put
  rw [if_pos ma, if_neg a0, if_pos (.inl hfe)]
/-- A number of few digits is put, or is beyond. -/
theorem enc (h : f.ok) {neg : Bool} {N c : Nat} (h0 : N ≠ 0) (hN : N ≤ 2 ^ f.p) (hc : c = 0 ∨ 2 ^ (f.p - 1) ≤ N) (hcb : f.low + c ≤ 8100) :
    (N * 2 ^ c < 2 ^ f.ov → ∃ b, f.put ⟨neg, N, f.low + c⟩ = (b, 0) ∧ b < 2 ^ (f.p + f.w) ∧ f.cl b ≤ 2 ∧ f.sn b = neg ∧ f.sz b = N * 2 ^ c) ∧
    (2 ^ f.ov ≤ N * 2 ^ c → f.put ⟨neg, N, f.low + c⟩ = (0, 10)) := by
  have hB := bounds h
  have hpp := pp h
  have hw := Nat.two_pow_pos f.w
  have hq := Nat.two_pow_pos (f.p - 1)
  have ma : (⟨neg, N, f.low + c⟩ : Dy).may = true := may_of (k := 54) (by
    show nlen N ≤ 54
    refine nlen_le_iff.2 (Nat.lt_of_le_of_lt hN (Nat.pow_lt_pow_right (by omega) (by omega)))) (by omega) (by dsimp only; omega) (by dsimp only; omega)
  -- digits and exponent, laid anew if a digit came on
  have norm : ∃ m c', m ≠ 0 ∧ m < 2 ^ f.p ∧ (c' = 0 ∨ 2 ^ (f.p - 1) ≤ m) ∧ m * 2 ^ c' = N * 2 ^ c ∧ (⟨neg, N, f.low + c⟩ : Dy).plain = (⟨neg, m, f.low + (c' + 1 : Nat) - 1⟩ : Dy).plain := by
    by_cases hN2 : N = 2 ^ f.p
    · refine ⟨2 ^ (f.p - 1), c + 1, by omega, by omega, .inr (Nat.le_refl _), by rw [hN2, ← Nat.pow_add, ← Nat.pow_add]; congr 1; omega, ?_⟩
      refine plain_congr (E := f.low + c) (by dsimp only; omega) (by dsimp only; omega) rfl ?_
      unfold Dy.dv; dsimp only
      rw [hN2, ← Nat.pow_add, ← Nat.pow_add]; congr 1; omega
    · refine ⟨N, c, h0, by omega, hc, rfl, ?_⟩
      rw [show f.low + ((c + 1 : Nat) : Int) - 1 = f.low + c by omega]
  obtain ⟨m, c', m0, mp, mc, mv, mpl⟩ := norm
  rw [← mv]
  constructor
  · intro hlt
    have hE : c' + 1 < 2 ^ f.w - 1 := by
      rcases mc with z | z
      · omega
      · have : 2 ^ (f.p - 1 + c') < 2 ^ f.ov := by rw [Nat.pow_add]; exact Nat.lt_of_le_of_lt (Nat.mul_le_mul_right _ z) hlt
        have := (Nat.pow_lt_pow_iff_right (a := 2) (by omega)).1 this
        unfold ov at this; omega
    have hp2 := put_of h ma mpl m0 mp (by omega) (mc.imp (fun z => by omega) id) (by omega)
    refine ⟨_, hp2, ?_, ?_, ?_, ?_⟩
    · exact bld_lt h (by split <;> omega) (Nat.mod_lt _ hq)
    · exact cl_bld h (by split <;> omega) (Nat.mod_lt _ hq)
    · exact (bld_parts h (by split <;> omega) (Nat.mod_lt _ hq)).1
    · rw [sz_bld h (by split <;> omega) (Nat.mod_lt _ hq)]
      by_cases hm : m < 2 ^ (f.p - 1)
      · rw [if_pos hm, if_pos rfl, Nat.mod_eq_of_lt hm]
        rcases mc with z | z
        · rw [z]; simp
        · omega
      · rw [if_neg hm, if_neg (by omega), Nat.mod_eq_sub_mod (by omega), Nat.mod_eq_of_lt (by omega)]
        congr 2 <;> omega
  · intro hge
    have hE : 2 ^ f.w - 1 ≤ c' + 1 := by
      apply Classical.byContradiction; intro k
      have : m * 2 ^ c' < 2 ^ (f.p + c') := by rw [Nat.pow_add]; exact Nat.mul_lt_mul_of_pos_right mp (Nat.two_pow_pos _)
      have : 2 ^ (f.p + c') ≤ 2 ^ f.ov := Nat.pow_le_pow_right (by omega) (by unfold ov; omega)
      omega
    have hc1 : 2 ^ (f.p - 1) ≤ m := by rcases mc with z | z <;> omega
    exact put_over h ma mpl m0 hc1 (by omega)
theorem sz_ov (h : f.ok) (hb : f.cl b ≤ 2) : f.sz b < 2 ^ f.ov := by
  have hB := bounds h
  have e := ex_cl hb h
  have m := mg_lt h (b := b)
  unfold sz
  refine Nat.lt_of_lt_of_le (Nat.mul_lt_mul_of_pos_right m (Nat.two_pow_pos _)) ?_
  rw [← Nat.pow_add]
  exact Nat.pow_le_pow_right (by omega) (by unfold ov; omega)
/-- Bits of one sign and size are the same bits. -/
theorem sz_inj (h : f.ok) {a b : Nat} (ha : a < 2 ^ (f.p + f.w)) (hb : b < 2 ^ (f.p + f.w)) (hs : f.sn a = f.sn b) (hz : f.sz a = f.sz b) : a = b := by
  have hB := bounds h
  have e : 2 ^ (f.p + f.w) = 2 * 2 ^ (f.p + f.w - 1) := by rw [← Nat.pow_succ']; congr 1; omega
  have red : ∀ c, c < 2 ^ (f.p + f.w) → ∃ d, d < 2 ^ (f.p + f.w - 1) ∧ f.sz c = f.sz d ∧ ((f.sn c = true ∧ c = d + 2 ^ (f.p + f.w - 1)) ∨ (f.sn c = false ∧ c = d)) := by
    intro c hc
    have x := bld_self h (b := c)
    rw [Nat.mod_eq_of_lt hc] at x
    have d1 := bld_parts h (neg := false) (ex_lt (f := f) (b := c)) (fr_lt h (b := c))
    have d2 : f.bld false (f.ex c) (f.fr c) < 2 ^ (f.p + f.w - 1) := by
      have e1 := ex_lt (f := f) (b := c)
      have e2 := fr_lt h (b := c)
      have e3 : 2 ^ (f.p + f.w - 1) = 2 ^ f.w * 2 ^ (f.p - 1) := by rw [← Nat.pow_add]; congr 1; omega
      unfold bld; rw [if_neg (by simp), Nat.add_zero, e3]
      have := Nat.mul_le_mul_right (2 ^ (f.p - 1)) (show f.ex c + 1 ≤ 2 ^ f.w from e1)
      rw [Nat.add_mul] at this; omega
    refine ⟨_, d2, ?_, ?_⟩
    · unfold sz mg; rw [d1.2.1, d1.2.2]
    · cases hs : f.sn c with
      | true => left; refine ⟨rfl, ?_⟩; rw [hs] at x; unfold bld at x ⊢; rw [if_pos rfl] at x; simp; omega
      | false => right; refine ⟨rfl, ?_⟩; rw [hs] at x; exact x.symm
  obtain ⟨a', la, za, ca⟩ := red a ha
  obtain ⟨b', lb, zb, cb⟩ := red b hb
  have : a' = b' := by
    rw [za, zb] at hz
    have k1 := @sz_lt f h a' b'
    have k2 := @sz_lt f h b' a'
    apply Classical.byContradiction; intro n
    by_cases l : a' < b'
    · have := k1 l lb; omega
    · have := k2 (by omega) la; omega
  subst this
  rcases ca with ⟨s1, e1⟩ | ⟨s1, e1⟩ <;> rcases cb with ⟨s2, e2⟩ | ⟨s2, e2⟩
  · omega
  · rw [s1, s2] at hs; cases hs
  · rw [s1, s2] at hs; cases hs
  · omega
end
end Fm
end Go.Proofs.Ytlapfomfnmccgaa.N
