import Derived.Test.YtlapfomfnmccgaaN47
import Derived.Test.YtlapfomfnmccgaaPx0
set_option linter.unusedVariables false
namespace Go.Proofs.Ytlapfomfnmccgaa.N
open Go.RowKit Go.Proofs.Ytlapfomfnmccgaa.P Go.Proofs.YtlapfomfnmccgaaW.PrintWords Go.Proofs.YtlapfomfnmccgaaW.PrintMore Sk
open Dy
namespace Fm
section
variable {f : Fm} {b : Nat}
/-- What is told, with its sign. -/
def sr (f : Fm) (mode : Int) (s : Nat) (X : Int) : Int := if X < 0 then -((f.rz mode true s X.natAbs : Nat) : Int) else ((f.rz mode false s X.natAbs : Nat) : Int)
/-- Of an X, what is not beyond is a size that there is. -/
def Fits (f : Fm) (mode : Int) (s : Nat) (X : Int) : Prop := ∀ neg, (neg = decide (X < 0)) → rd mode neg f.p s X.natAbs < 2 ^ (s + f.ov) → rd mode neg f.p s X.natAbs ≤ f.sz (f.grt false) * 2 ^ s
theorem rd_zero (mode : Int) (neg : Bool) (p s : Nat) : rd mode neg p s 0 = 0 := rd_exact (Nat.zero_mod _)
theorem rz_zero (mode : Int) (neg : Bool) (s : Nat) : f.rz mode neg s 0 = 0 := by
  unfold rz; rw [rd_zero, if_pos (Nat.two_pow_pos _)]
theorem wv_zero (h : f.ok) (neg : Bool) : (f.wv (f.bld neg 0 0)).n = 0 := by
  obtain ⟨z1, z2, z3, z4⟩ := zero_bits h neg
  unfold wv
  rw [if_neg (by omega), val_raw z1 (by omega)]
  exact plain_n.2 (mg_zero.2 z2)
theorem sv_sign {a : Dy} (h0 : a.n ≠ 0) (E : Int) : (a.neg = decide (a.sv E < 0)) ∧ (a.sv E).natAbs = a.dv E := by
  have := dv_ne h0 E
  unfold Dy.sv
  cases a.neg
  · rw [if_neg (by simp)]; exact ⟨(decide_eq_false (by omega)).symm, Int.natAbs_natCast _⟩
  · rw [if_pos rfl]; exact ⟨(decide_eq_true (by omega)).symm, by rw [Int.natAbs_neg, Int.natAbs_natCast]⟩
theorem told_sr (h : f.ok) {mode : Int} (hm : 0 ≤ mode ∧ mode < 5) {a : Dy} (ha : rmay a = true) (neg : Bool) {E : Int} (hE : E ≤ a.e) (hL : E ≤ f.low) {s : Nat} (hs : s = (f.low - E).toNat) :
    ∃ b fl, f.rto mode a neg = (b, fl, 0) ∧ b < 2 ^ (f.p + f.w) ∧ f.cl b ≤ 3 ∧ Va (f.wv b) E (f.sr mode s (a.sv E)) ∧ f.Fits mode s (a.sv E) ∧ (a.n ≠ 0 → f.sn b = a.neg) ∧ (a.n = 0 → f.sn b = neg) := by
  by_cases h0 : a.n = 0
  · obtain ⟨z1, z2, z3, z4⟩ := zero_bits h neg
    refine ⟨f.bld neg 0 0, 0, ?_, z1, by omega, ?_, ?_, fun k => absurd h0 k, fun _ => z3⟩
    · unfold rto; rw [if_neg (by omega), if_pos ha, if_pos h0]
    · rw [sv_zero h0]
      unfold sr
      rw [if_neg (by omega), show (0 : Int).natAbs = 0 from rfl, rz_zero]
      exact Va.zero (wv_zero h neg) E
    · intro n hn hl
      rw [sv_zero h0, show (0 : Int).natAbs = 0 from rfl, rd_zero]; omega
  · obtain ⟨b, fl, e1, b1, b2, b3, b4, b5⟩ := rto_val h hm ha h0 neg hE hL rfl hs
    obtain ⟨s1, s2⟩ := sv_sign h0 E
    refine ⟨b, fl, e1, b1, b2, ?_, ?_, fun _ => b3, fun k => absurd k h0⟩
    · unfold sr
      rw [s2]
      by_cases hx : a.sv E < 0
      · rw [if_pos hx]; rw [decide_eq_true hx] at s1; rw [s1, if_pos rfl] at b4; exact b4
      · rw [if_neg hx]; rw [decide_eq_false hx] at s1; rw [s1, if_neg (by simp)] at b4; exact b4
    · intro n hn hl
      rw [s2] at hl ⊢
      rw [hn, ← s1] at hl ⊢
      exact b5 hl
theorem sr_mono (h : f.ok) {mode : Int} {s : Nat} {X Y : Int} (hX : f.Fits mode s X) (hY : f.Fits mode s Y) (hxy : X ≤ Y) : f.sr mode s X ≤ f.sr mode s Y := by
  unfold sr
  by_cases h1 : X < 0
  · rw [if_pos h1]
    by_cases h2 : Y < 0
    · rw [if_pos h2]
      have := rz_mono h (mode := mode) (neg := true) (s := s) (x := Y.natAbs) (y := X.natAbs) (by omega) (hY true (decide_eq_true h2).symm)
      omega
    · rw [if_neg h2]; omega
  · rw [if_neg h1, if_neg (by omega)]
    have := rz_mono h (mode := mode) (neg := false) (s := s) (x := X.natAbs) (y := Y.natAbs) (by omega) (hX false (decide_eq_false h1).symm)
    omega
theorem sr_dir (h : f.ok) {s : Nat} {X : Int} (hn : nlen X.natAbs ≤ 5000 - f.low + s) : f.sr 2 s X ≤ X ∧ X ≤ f.sr 3 s X ∧ (X < 0 → X ≤ f.sr 1 s X) ∧ (0 ≤ X → f.sr 1 s X ≤ X) := by
  unfold sr
  by_cases h1 : X < 0
  · rw [if_pos h1, if_pos h1, if_pos h1]
    have a1 := rz_aw h (mode := 2) (neg := true) (.inl ⟨rfl, rfl⟩) hn
    have a2 := rz_tow h (mode := 3) (neg := true) (.inr (.inr ⟨rfl, rfl⟩)) s X.natAbs
    have a3 := rz_tow h (mode := 1) (neg := true) (.inl rfl) s X.natAbs
    omega
  · rw [if_neg h1, if_neg h1, if_neg h1]
    have a1 := rz_tow h (mode := 2) (neg := false) (.inr (.inl ⟨rfl, rfl⟩)) s X.natAbs
    have a2 := rz_aw h (mode := 3) (neg := false) (.inr ⟨rfl, rfl⟩) hn
    have a3 := rz_tow h (mode := 1) (neg := false) (.inl rfl) s X.natAbs
    omega
theorem wv_may (h : f.ok) (b : Nat) : (f.wv b).may = true ∧ nlen (f.wv b).n ≤ 53 := by
  unfold wv
  split
  · exact ⟨may_of (k := 100) (by show nlen 1 ≤ 100; decide +kernel) (by omega) (by dsimp only; omega) (by dsimp only; omega), by show nlen 1 ≤ 53; decide +kernel⟩
  · exact ⟨val_may h b, val_nlen h b⟩
end
end Fm
theorem Va.abs {a : Dy} {E x : Int} (h : Va a E x) : Va ⟨false, a.n, a.e⟩ E ((x.natAbs : Nat) : Int) := by
  refine ⟨h.1, ?_⟩
  have := h.2
  unfold Dy.sv at this ⊢
  rw [if_neg (by simp)]
  show ((a.dv E : Nat) : Int) = _
  split at this <;> omega
/-- One bit at a place. -/
theorem va_bit {E e : Int} {k : Nat} (h : e = E + k) : Va ⟨false, 1, e⟩ E ((2 ^ k : Nat) : Int) := by
  subst h
  refine ⟨fun _ => by dsimp only; omega, ?_⟩
  unfold Dy.sv
  rw [if_neg (by simp)]
  unfold Dy.dv
  dsimp only
  rw [Nat.one_mul, show (E + (k : Int) - E).toNat = k by omega]
end Go.Proofs.Ytlapfomfnmccgaa.N
