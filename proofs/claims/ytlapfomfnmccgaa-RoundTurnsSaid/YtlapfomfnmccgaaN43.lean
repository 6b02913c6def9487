import Derived.Test.YtlapfomfnmccgaaN42
import Derived.Test.YtlapfomfnmccgaaPx0
set_option linter.unusedVariables false
namespace Go.Proofs.Ytlapfomfnmccgaa.N
open Go.RowKit Go.Proofs.Ytlapfomfnmccgaa.P Go.Proofs.YtlapfomfnmccgaaW.PrintWords Go.Proofs.YtlapfomfnmccgaaW.PrintMore Sk
open Dy
/-! ### Rounding of whole numbers -/
/-- Whether a number goes away from 0. -/
def upb (mode : Int) (neg odd half less : Bool) : Bool :=
  if mode = 0 then (if odd = false ∧ less = false then false else half) else if mode = 4 then half else if mode = 2 then (neg && (half || less)) else if mode = 3 then (!neg && (half || less)) else false
def hf (k x : Nat) : Bool := decide (k ≠ 0 ∧ x / 2 ^ (k - 1) % 2 = 1)
def ls (k x : Nat) : Bool := decide (k ≠ 0 ∧ x % 2 ^ (k - 1) ≠ 0)
def odd (n : Nat) : Bool := decide (n % 2 = 1)
def ups (mode : Int) (neg : Bool) (k x : Nat) : Bool := upb mode neg (odd (x / 2 ^ k)) (hf k x) (ls k x)
/-- What is told, in places; with the place at k. -/
def rn (mode : Int) (neg : Bool) (k x : Nat) : Nat := x / 2 ^ k + (if ups mode neg k x = true then 1 else 0)
/-- The place of a number, for p digits and the least place s. -/
def kp (p s x : Nat) : Nat := max (nlen x - p) s
def rd (mode : Int) (neg : Bool) (p s x : Nat) : Nat := rn mode neg (kp p s x) x * 2 ^ kp p s x
theorem rem_half {k x : Nat} (h : k ≠ 0) : (x / 2 ^ (k - 1) % 2 = 1 ↔ 2 ^ k ≤ 2 * (x % 2 ^ k)) ∧ (x % 2 ^ (k - 1) = 0 ↔ x % 2 ^ k = 0 ∨ 2 ^ k = 2 * (x % 2 ^ k)) := by
  obtain ⟨H, hH⟩ : ∃ H, H = 2 ^ (k - 1) := ⟨_, rfl⟩
  have h2 : 2 ^ k = H * 2 := by rw [hH, ← Nat.pow_succ]; congr 1; omega
  have hp : 0 < H := by rw [hH]; exact Nat.two_pow_pos _
  rw [← hH, h2]
  have e1 := Nat.mod_mul_right_div_self x H 2
  have e2 := Nat.mod_mul_right_mod x H 2
  have e3 := Nat.mod_lt x (show 0 < H * 2 by omega)
  rw [← e1, ← e2]
  generalize x % (H * 2) = r at *
  by_cases hr : r < H
  · rw [Nat.div_eq_of_lt hr, Nat.mod_eq_of_lt hr]; omega
  · have d : r / H = 1 := by rw [Nat.div_eq_iff hp]; omega
    have m : r % H = r - H := by rw [Nat.mod_eq_sub_mod (by omega), Nat.mod_eq_of_lt (by omega)]
    rw [d, m]; omega
theorem ups_iff {mode : Int} {neg : Bool} {k x : Nat} : ups mode neg k x = true ↔
    (mode = 0 ∧ (2 ^ k < 2 * (x % 2 ^ k) ∨ (2 ^ k = 2 * (x % 2 ^ k) ∧ x / 2 ^ k % 2 = 1))) ∨ (mode = 4 ∧ 2 ^ k ≤ 2 * (x % 2 ^ k)) ∨ (mode = 2 ∧ neg = true ∧ x % 2 ^ k ≠ 0) ∨ (mode = 3 ∧ neg = false ∧ x % 2 ^ k ≠ 0) := by
  have key : (hf k x = true ↔ 2 ^ k ≤ 2 * (x % 2 ^ k)) ∧ (ls k x = true ↔ ¬ (x % 2 ^ k = 0 ∨ 2 ^ k = 2 * (x % 2 ^ k))) ∧ (x % 2 ^ k = 0 ∨ True) := by
    refine ⟨?_, ?_, .inr trivial⟩
    · unfold hf; rw [decide_eq_true_eq]
      by_cases h : k = 0
      · subst h; simp [Nat.mod_one]
      · rw [(rem_half h).1]; exact ⟨fun z => z.2, fun z => ⟨h, z⟩⟩
    · unfold ls; rw [decide_eq_true_eq]
      by_cases h : k = 0
      · subst h; simp [Nat.mod_one]
      · rw [Ne, Ne, (rem_half h).2]; exact ⟨fun z => z.2, fun z => ⟨h, z⟩⟩
  obtain ⟨k1, k2, _⟩ := key
  have hp := Nat.two_pow_pos k
  unfold ups upb odd
  by_cases m0 : mode = 0
  · subst m0
    rw [if_pos rfl]
    by_cases ho : x / 2 ^ k % 2 = 1
    · rw [decide_eq_true ho, if_neg (by simp), k1]; simp [ho]; omega
    · rw [decide_eq_false ho]
      by_cases hl : ls k x = true
      · rw [hl, if_neg (by simp), k1]; have := k2.1 hl; simp [ho]; omega
      · rw [Bool.not_eq_true] at hl; rw [hl, if_pos ⟨rfl, rfl⟩]
        have : x % 2 ^ k = 0 ∨ 2 ^ k = 2 * (x % 2 ^ k) := Classical.byContradiction fun z => by rw [k2.2 z] at hl; cases hl
        simp [ho]; omega
  rw [if_neg m0]
  by_cases m4 : mode = 4
  · subst m4; rw [if_pos rfl, k1]; simp
  rw [if_neg m4]
  have hor : (hf k x || ls k x) = true ↔ x % 2 ^ k ≠ 0 := by rw [Bool.or_eq_true, k1, k2]; omega
  by_cases m2 : mode = 2
  · subst m2; rw [if_pos rfl, Bool.and_eq_true, hor]; simp
  rw [if_neg m2]
  by_cases m3 : mode = 3
  · subst m3; rw [if_pos rfl, Bool.and_eq_true, hor]; simp
  rw [if_neg m3]; simp [m0, m2, m3, m4]
theorem inex_iff {k x : Nat} : (hf k x || ls k x) = true ↔ x % 2 ^ k ≠ 0 := by
  have hp := Nat.two_pow_pos k
  by_cases h : k = 0
  · subst h; simp [hf, ls, Nat.mod_one]
  · have := rem_half (x := x) h
    unfold hf ls
    rw [Bool.or_eq_true, decide_eq_true_eq, decide_eq_true_eq, this.1, Ne, Ne, this.2]
    constructor
    · rintro (z | z) <;> omega
    · intro z; by_cases y : 2 ^ k ≤ 2 * (x % 2 ^ k)
      · exact .inl ⟨h, y⟩
      · exact .inr ⟨h, by omega⟩
theorem ups_same {mode : Int} {neg : Bool} {k x y : Nat} (h : x ≤ y) (hd : x / 2 ^ k = y / 2 ^ k) (hu : ups mode neg k x = true) : ups mode neg k y = true := by
  have e1 := Nat.div_add_mod x (2 ^ k)
  have e2 := Nat.div_add_mod y (2 ^ k)
  rw [hd] at e1
  have hr : x % 2 ^ k ≤ y % 2 ^ k := by omega
  rw [ups_iff] at hu ⊢
  rw [hd] at hu
  rcases hu with ⟨m, hh⟩ | ⟨m, hh⟩ | ⟨m, n, hh⟩ | ⟨m, n, hh⟩
  · exact .inl ⟨m, by omega⟩
  · exact .inr (.inl ⟨m, by omega⟩)
  · exact .inr (.inr (.inl ⟨m, n, by omega⟩))
  · exact .inr (.inr (.inr ⟨m, n, by omega⟩))
/-- What is told lies between the neighbours. -/
theorem rn_bounds (mode : Int) (neg : Bool) (k x : Nat) : x / 2 ^ k * 2 ^ k ≤ rn mode neg k x * 2 ^ k ∧ rn mode neg k x * 2 ^ k ≤ x / 2 ^ k * 2 ^ k + 2 ^ k ∧ (x % 2 ^ k = 0 → rn mode neg k x * 2 ^ k = x) ∧
    (ups mode neg k x = true → rn mode neg k x * 2 ^ k = x / 2 ^ k * 2 ^ k + 2 ^ k) ∧ (ups mode neg k x = false → rn mode neg k x * 2 ^ k = x / 2 ^ k * 2 ^ k) := by
  have h0 : x % 2 ^ k = 0 → ups mode neg k x = false := by
    intro h
    cases hu : ups mode neg k x with
    | false => rfl
    | true =>
      have hp := Nat.two_pow_pos k
      rw [ups_iff, h] at hu
      omega
  have e := Nat.div_add_mod' x (2 ^ k)
  unfold rn
  cases hu : ups mode neg k x with
  | true =>
    rw [if_pos rfl, Nat.add_mul, Nat.one_mul]
    exact ⟨by omega, by omega, (fun h => by rw [h0 h] at hu; cases hu), (fun _ => rfl), (fun h => by cases h)⟩
  | false =>
    rw [if_neg (by simp), Nat.add_zero]
    exact ⟨by omega, by omega, (fun h => by omega), (fun h => by cases h), (fun _ => rfl)⟩
theorem kp_pos {p s x : Nat} (hk : s < kp p s x) : nlen x = kp p s x + p := by unfold kp at *; omega
theorem kp_ge (p s x : Nat) : s ≤ kp p s x ∧ nlen x ≤ kp p s x + p := by unfold kp; omega
theorem kp_mono {p s x y : Nat} (h : x ≤ y) : kp p s x ≤ kp p s y := by have := nlen_mono h; unfold kp; omega
theorem pow_dvd_div {a b y : Nat} (hab : a ≤ b) (h : 2 ^ b ≤ y) : 2 ^ b ≤ y / 2 ^ a * 2 ^ a := by
  have e : 2 ^ b = 2 ^ (b - a) * 2 ^ a := by rw [← Nat.pow_add]; congr 1; omega
  rw [e]
  refine Nat.mul_le_mul_right _ ?_
  rw [Nat.le_div_iff_mul_le (Nat.two_pow_pos _), ← e]; exact h
/-- Few digits are told. -/
theorem rn_le (mode : Int) (neg : Bool) (p s x : Nat) : rn mode neg (kp p s x) x ≤ 2 ^ p ∧ (s < kp p s x → 0 < p → 2 ^ (p - 1) ≤ rn mode neg (kp p s x) x) := by
  have hk := kp_ge p s x
  have hlt : x / 2 ^ kp p s x < 2 ^ p := by
    rw [Nat.div_lt_iff_lt_mul (Nat.two_pow_pos _), ← Nat.pow_add, Nat.add_comm]
    exact nlen_le_iff.1 hk.2
  constructor
  · unfold rn; split <;> omega
  · intro h1 hp
    have h2 := kp_pos h1
    have h3 := pow_dvd_div (a := kp p s x) (b := kp p s x + p - 1) (y := x) (by omega) (nlen_gt_iff.1 (by omega))
    have e : 2 ^ (kp p s x + p - 1) = 2 ^ (p - 1) * 2 ^ kp p s x := by rw [← Nat.pow_add]; congr 1; omega
    rw [e] at h3
    have := Nat.le_of_mul_le_mul_right h3 (Nat.two_pow_pos _)
    unfold rn; omega
/-- A greater number is never told to be a lesser one. -/
theorem rd_mono {mode : Int} {neg : Bool} {p s x y : Nat} (hp : 0 < p) (h : x ≤ y) : rd mode neg p s x ≤ rd mode neg p s y := by
  unfold rd
  have bx := rn_bounds mode neg (kp p s x) x
  have by_ := rn_bounds mode neg (kp p s y) y
  have hk := kp_mono (p := p) (s := s) h
  by_cases hkk : kp p s x = kp p s y
  · rw [← hkk] at by_ ⊢
    refine Nat.mul_le_mul_right _ ?_
    have hd := Nat.div_le_div_right (c := 2 ^ kp p s x) h
    by_cases e : x / 2 ^ kp p s x = y / 2 ^ kp p s x
    · unfold rn
      rw [← e]
      cases hu : ups mode neg (kp p s x) x with
      | false => simp
      | true => rw [ups_same h e hu]; exact Nat.le_refl _
    · unfold rn; split <;> split <;> omega
  · have hl : nlen y = kp p s y + p := kp_pos (by have := kp_ge p s x; omega)
    have h1 : 2 ^ (nlen y - 1) ≤ y / 2 ^ kp p s y * 2 ^ kp p s y := pow_dvd_div (by omega) (nlen_gt_iff.1 (by omega))
    have h2 := (rn_le mode neg p s x).1
    have h3 : rn mode neg (kp p s x) x * 2 ^ kp p s x ≤ 2 ^ (nlen y - 1) := by
      refine Nat.le_trans (Nat.mul_le_mul_right _ h2) ?_
      rw [← Nat.pow_add]
      exact Nat.pow_le_pow_right (by omega) (by omega)
    omega
end Go.Proofs.Ytlapfomfnmccgaa.N
