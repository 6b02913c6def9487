/- Rounding of whole numbers to few digits by five modes: what is told lies between the neighbours and rises, for all numbers. A number of few digits is put into a format, or is beyond it, for all numbers; sizes and signs tell the bits. What rounding to a format tells of a number with a sign and an exponent, for all numbers that may be rounded. What rounding tells, as a number: directions, nesting, half a place, and that it rises, for all numbers that may be rounded. The mathematics of the laws RoundTurns, RoundKeeps and RoundNested, for all numbers that may be rounded. What rounding tells, with its sign, rises, for all numbers that may be rounded. -/
import Derived.Test.YtlaffgojgfdlnaaN42
import Derived.Test.YtlaffgojgfdlnaaPx0
set_option linter.unusedVariables false
namespace Go.Proofs.Ytlaffgojgfdlnaa.N
open Go.RowKit Go.Proofs.Ytlaffgojgfdlnaa.P Go.Proofs.YtlaffgojgfdlnaaW.PrintWords Go.Proofs.YtlaffgojgfdlnaaW.PrintMore Sk
open Dy
/-! ### Rounding of whole numbers -/
/-- Whether a number goes away from 0. -/
def upb (mode : Int) (neg odd half less : Bool) : Bool :=
  if mode = 0 then (if odd = false ∧ less = false then false else half) else if mode = 4 then half else if mode = 2 then (neg && (half || less)) else if mode = 3 then (!neg && (half || less)) else false
def hf (k x : Nat) : Bool := decide (k ≠ 0 ∧ x / 2 ^ (k - 1) % 2 = 1)
def ls (k x : Nat) : Bool := decide (k ≠ 0 ∧ x % 2 ^ (k - 1) ≠ 0)
def odd (n : Nat) : Bool := decide (n % 2 = 1)
def ups (mode : Int) (neg : Bool) (k x : Nat) : Bool := upb mode neg (odd (x / 2 ^ k)) (hf k x) (ls k x)
/-- What is told, in places; with the place at k. -/
def rn (mode : Int) (neg : Bool) (k x : Nat) : Nat := x / 2 ^ k + (if ups mode neg k x = true then 1 else 0)
/-- The place of a number, for p digits and the least place s. -/
def kp (p s x : Nat) : Nat := max (nlen x - p) s
def rd (mode : Int) (neg : Bool) (p s x : Nat) : Nat := rn mode neg (kp p s x) x * 2 ^ kp p s x
theorem rem_half {k x : Nat} (h : k ≠ 0) : (x / 2 ^ (k - 1) % 2 = 1 ↔ 2 ^ k ≤ 2 * (x % 2 ^ k)) ∧ (x % 2 ^ (k - 1) = 0 ↔ x % 2 ^ k = 0 ∨ 2 ^ k = 2 * (x % 2 ^ k)) := by
  obtain ⟨H, hH⟩ : ∃ H, H = 2 ^ (k - 1) := ⟨_, rfl⟩
  have h2 : 2 ^ k = H * 2 := by rw [hH, ← Nat.pow_succ]; congr 1; omega
  have hp : 0 < H := by rw [hH]; exact Nat.two_pow_pos _
  rw [← hH, h2]
  have e1 := Nat.mod_mul_right_div_self x H 2
  have e2 := Nat.mod_mul_right_mod x H 2
  have e3 := Nat.mod_lt x (show 0 < H * 2 by omega)
  rw [← e1, ← e2]
  generalize x % (H * 2) = r at *
  by_cases hr : r < H
  · rw [Nat.div_eq_of_lt hr, Nat.mod_eq_of_lt hr]; omega
  · have d : r / H = 1 := by rw [Nat.div_eq_iff hp]; omega
    have m : r % H = r - H := by rw [Nat.mod_eq_sub_mod (by omega), Nat.mod_eq_of_lt (by omega)]
    rw [d, m]; omega
theorem ups_iff {mode : Int} {neg : Bool} {k x : Nat} : ups mode neg k x = true ↔
    (mode = 0 ∧ (2 ^ k < 2 * (x % 2 ^ k) ∨ (2 ^ k = 2 * (x % 2 ^ k) ∧ x / 2 ^ k % 2 = 1))) ∨ (mode = 4 ∧ 2 ^ k ≤ 2 * (x % 2 ^ k)) ∨ (mode = 2 ∧ neg = true ∧ x % 2 ^ k ≠ 0) ∨ (mode = 3 ∧ neg = false ∧ x % 2 ^ k ≠ 0) := by
  have key : (hf k x = true ↔ 2 ^ k ≤ 2 * (x % 2 ^ k)) ∧ (ls k x = true ↔ ¬ (x % 2 ^ k = 0 ∨ 2 ^ k = 2 * (x % 2 ^ k))) ∧ (x % 2 ^ k = 0 ∨ True) := by
    refine ⟨?_, ?_, .inr trivial⟩
    · unfold hf; rw [decide_eq_true_eq]
      by_cases h : k = 0
      · subst h; simp [Nat.mod_one]
      · rw [(rem_half h).1]; exact ⟨fun z => z.2, fun z => ⟨h, z⟩⟩
    · unfold ls; rw [decide_eq_true_eq]
      by_cases h : k = 0
      · subst h; simp [Nat.mod_one]
      · rw [Ne, Ne, (rem_half h).2]; exact ⟨fun z => z.2, fun z => ⟨h, z⟩⟩
  obtain ⟨k1, k2, _⟩ := key
  have hp := Nat.two_pow_pos k
  unfold ups upb odd
  by_cases m0 : mode = 0
  · subst m0
    rw [if_pos rfl]
    by_cases ho : x / 2 ^ k % 2 = 1
    · rw [decide_eq_true ho, if_neg (by simp), k1]; simp [ho]; omega
    · rw [decide_eq_false ho]
      by_cases hl : ls k x = true
      · rw [hl, if_neg (by simp), k1]; have := k2.1 hl; simp [ho]; omega
      · rw [Bool.not_eq_true] at hl; rw [hl, if_pos ⟨rfl, rfl⟩]
        have : x % 2 ^ k = 0 ∨ 2 ^ k = 2 * (x % 2 ^ k) := Classical.byContradiction fun z => by rw [k2.2 z] at hl; cases hl
        simp [ho]; omega
  rw [if_neg m0]
  by_cases m4 : mode = 4
  · subst m4; rw [if_pos rfl, k1]; simp
  rw [if_neg m4]
  have hor : (hf k x || ls k x) = true ↔ x % 2 ^ k ≠ 0 := by rw [Bool.or_eq_true, k1, k2]; omega
  by_cases m2 : mode = 2
  · subst m2; rw [if_pos rfl, Bool.and_eq_true, hor]; simp
  rw [if_neg m2]
  by_cases m3 : mode = 3
  · subst m3; rw [if_pos rfl, Bool.and_eq_true, hor]; simp
  rw [if_neg m3]; simp [m0, m2, m3, m4]
theorem inex_iff {k x : Nat} : (hf k x || ls k x) = true ↔ x % 2 ^ k ≠ 0 := by
  have hp := Nat.two_pow_pos k
  by_cases h : k = 0
  · subst h; simp [hf, ls, Nat.mod_one]
  · have := rem_half (x := x) h
    unfold hf ls
    rw [Bool.or_eq_true, decide_eq_true_eq, decide_eq_true_eq, this.1, Ne, Ne, this.2]
    constructor
    · rintro (z | z) <;> omega
    · intro z; by_cases y : 2 ^ k ≤ 2 * (x % 2 ^ k)
      · exact .inl ⟨h, y⟩
      · exact .inr ⟨h, by omega⟩
/-- What is told lies between the neighbours. -/
theorem rn_bounds (mode : Int) (neg : Bool) (k x : Nat) : x / 2 ^ k * 2 ^ k ≤ rn mode neg k x * 2 ^ k ∧ rn mode neg k x * 2 ^ k ≤ x / 2 ^ k * 2 ^ k + 2 ^ k ∧ (x % 2 ^ k = 0 → rn mode neg k x * 2 ^ k = x) ∧
    (ups mode neg k x = true → rn mode neg k x * 2 ^ k = x / 2 ^ k * 2 ^ k + 2 ^ k) ∧ (ups mode neg k x = false → rn mode neg k x * 2 ^ k = x / 2 ^ k * 2 ^ k) := by
  have h0 : x % 2 ^ k = 0 → ups mode neg k x = false := by
    intro h
    cases hu : ups mode neg k x with
    | false => rfl
    | true =>
      have hp := Nat.two_pow_pos k
      rw [ups_iff, h] at hu
      omega
  have e := Nat.div_add_mod' x (2 ^ k)
  unfold rn
  cases hu : ups mode neg k x with
  | true =>
    rw [if_pos rfl, Nat.add_mul, Nat.one_mul]
    exact ⟨by omega, by omega, (fun h => by rw [h0 h] at hu; cases hu), (fun _ => rfl), (fun h => by cases h)⟩
  | false =>
    rw [if_neg (by simp), Nat.add_zero]
    exact ⟨by omega, by omega, (fun h => by omega), (fun h => by cases h), (fun _ => rfl)⟩
theorem kp_pos {p s x : Nat} (hk : s < kp p s x) : nlen x = kp p s x + p := by unfold kp at *; omega
theorem kp_ge (p s x : Nat) : s ≤ kp p s x ∧ nlen x ≤ kp p s x + p := by unfold kp; omega
theorem kp_mono {p s x y : Nat} (h : x ≤ y) : kp p s x ≤ kp p s y := by have := nlen_mono h; unfold kp; omega
theorem pow_dvd_div {a b y : Nat} (hab : a ≤ b) (h : 2 ^ b ≤ y) : 2 ^ b ≤ y / 2 ^ a * 2 ^ a := by
  have e : 2 ^ b = 2 ^ (b - a) * 2 ^ a := by rw [← Nat.pow_add]; congr 1; omega
  rw [e]
  refine Nat.mul_le_mul_right _ ?_
  rw [Nat.le_div_iff_mul_le (Nat.two_pow_pos _), ← e]; exact h
/-- Few digits are told. -/
theorem rn_le (mode : Int) (neg : Bool) (p s x : Nat) : rn mode neg (kp p s x) x ≤ 2 ^ p ∧ (s < kp p s x → 0 < p → 2 ^ (p - 1) ≤ rn mode neg (kp p s x) x) := by
  have hk := kp_ge p s x
  have hlt : x / 2 ^ kp p s x < 2 ^ p := by
    rw [Nat.div_lt_iff_lt_mul (Nat.two_pow_pos _), ← Nat.pow_add, Nat.add_comm]
    exact nlen_le_iff.1 hk.2
  constructor
  · unfold rn; split <;> omega
  · intro h1 hp
    have h2 := kp_pos h1
    have h3 := pow_dvd_div (a := kp p s x) (b := kp p s x + p - 1) (y := x) (by omega) (nlen_gt_iff.1 (by omega))
    have e : 2 ^ (kp p s x + p - 1) = 2 ^ (p - 1) * 2 ^ kp p s x := by rw [← Nat.pow_add]; congr 1; omega
    rw [e] at h3
    have := Nat.le_of_mul_le_mul_right h3 (Nat.two_pow_pos _)
    unfold rn; omega
end Go.Proofs.Ytlaffgojgfdlnaa.N
set_option linter.unusedVariables false
namespace Go.Proofs.Ytlaffgojgfdlnaa.N
open Go.RowKit Go.Proofs.Ytlaffgojgfdlnaa.P Go.Proofs.YtlaffgojgfdlnaaW.PrintWords Go.Proofs.YtlaffgojgfdlnaaW.PrintMore Sk
open Dy
/-! ### A number of few digits as bits -/
namespace Fm
section
variable {f : Fm} {b : Nat}
/-- Above all sizes, in least places. -/
def ov (f : Fm) : Nat := f.p + 2 ^ f.w - 3
theorem cl_bld (h : f.ok) {neg : Bool} {e x : Nat} (he : e < 2 ^ f.w - 1) (hx : x < 2 ^ (f.p - 1)) : f.cl (f.bld neg e x) ≤ 2 := by
  obtain ⟨_, h2, h3⟩ := bld_parts h (neg := neg) (show e < 2 ^ f.w by omega) hx
  unfold cl; rw [h2, h3]; split <;> (try split) <;> omega
theorem sz_bld (h : f.ok) {neg : Bool} {e x : Nat} (he : e < 2 ^ f.w) (hx : x < 2 ^ (f.p - 1)) : f.sz (f.bld neg e x) = if e = 0 then x else (x + 2 ^ (f.p - 1)) * 2 ^ (e - 1) := by
  obtain ⟨_, h2, h3⟩ := bld_parts h (neg := neg) he hx
  unfold sz mg; rw [h2, h3]
  by_cases h0 : e = 0
  · rw [if_pos h0, if_pos h0, h0]; simp
  · rw [if_neg h0, if_neg h0]
/-- What can't be put, being beyond. -/
theorem put_over (h : f.ok) {a : Dy} (ma : a.may = true) {s : Bool} {m : Nat} {E : Int} (hp : a.plain = (⟨s, m, f.low + E - 1⟩ : Dy).plain) (h0 : m ≠ 0) (h2 : 2 ^ (f.p - 1) ≤ m) (h3 : ((2 ^ f.w : Nat) : Int) - 1 ≤ E) : f.put a = (0, 10) := by
  have hB := bounds h
  obtain ⟨c, hc⟩ : ∃ c, c = (⟨s, m, f.low + E - 1⟩ : Dy) := ⟨_, rfl⟩
  rw [← hc] at hp
  have c0 : c.n ≠ 0 := by rw [hc]; exact h0
  have a0 : a.n ≠ 0 := fun e => c0 (plain_n.1 (by rw [← hp]; exact plain_n.2 e))
  have e2 := top_plain c0
  have e4 : c.e = f.low + E - 1 := by rw [hc]
  have e5 : c.n = m := by rw [hc]
  have : f.p - 1 < nlen m := nlen_gt_iff.2 h2
  have hfe : ((2 ^ f.w : Nat) : Int) - 1 ≤ f.fe a.plain := by
    unfold fe; rw [hp]; rw [e5] at e2; omega
  unfold put
  rw [if_pos ma, if_neg a0, if_pos (.inl hfe)]
/-- A number of few digits is put, or is beyond. -/
theorem enc (h : f.ok) {neg : Bool} {N c : Nat} (h0 : N ≠ 0) (hN : N ≤ 2 ^ f.p) (hc : c = 0 ∨ 2 ^ (f.p - 1) ≤ N) (hcb : f.low + c ≤ 8100) :
    (N * 2 ^ c < 2 ^ f.ov → ∃ b, f.put ⟨neg, N, f.low + c⟩ = (b, 0) ∧ b < 2 ^ (f.p + f.w) ∧ f.cl b ≤ 2 ∧ f.sn b = neg ∧ f.sz b = N * 2 ^ c) ∧
    (2 ^ f.ov ≤ N * 2 ^ c → f.put ⟨neg, N, f.low + c⟩ = (0, 10)) := by
  have hB := bounds h
  have hpp := pp h
  have hw := Nat.two_pow_pos f.w
  have hq := Nat.two_pow_pos (f.p - 1)
  have ma : (⟨neg, N, f.low + c⟩ : Dy).may = true := may_of (k := 54) (by
    show nlen N ≤ 54
    refine nlen_le_iff.2 (Nat.lt_of_le_of_lt hN (Nat.pow_lt_pow_right (by omega) (by omega)))) (by omega) (by dsimp only; omega) (by dsimp only; omega)
  -- digits and exponent, laid anew if a digit came on
  have norm : ∃ m c', m ≠ 0 ∧ m < 2 ^ f.p ∧ (c' = 0 ∨ 2 ^ (f.p - 1) ≤ m) ∧ m * 2 ^ c' = N * 2 ^ c ∧ (⟨neg, N, f.low + c⟩ : Dy).plain = (⟨neg, m, f.low + (c' + 1 : Nat) - 1⟩ : Dy).plain := by
    by_cases hN2 : N = 2 ^ f.p
    · refine ⟨2 ^ (f.p - 1), c + 1, by omega, by omega, .inr (Nat.le_refl _), by rw [hN2, ← Nat.pow_add, ← Nat.pow_add]; congr 1; omega, ?_⟩
      refine plain_congr (E := f.low + c) (by dsimp only; omega) (by dsimp only; omega) rfl ?_
      unfold Dy.dv; dsimp only
      rw [hN2, ← Nat.pow_add, ← Nat.pow_add]; congr 1; omega
    · refine ⟨N, c, h0, by omega, hc, rfl, ?_⟩
      rw [show f.low + ((c + 1 : Nat) : Int) - 1 = f.low + c by omega]
  obtain ⟨m, c', m0, mp, mc, mv, mpl⟩ := norm
  rw [← mv]
  constructor
  · intro hlt
    have hE : c' + 1 < 2 ^ f.w - 1 := by
      rcases mc with z | z
      · omega
      · have : 2 ^ (f.p - 1 + c') < 2 ^ f.ov := by rw [Nat.pow_add]; exact Nat.lt_of_le_of_lt (Nat.mul_le_mul_right _ z) hlt
        have := (Nat.pow_lt_pow_iff_right (a := 2) (by omega)).1 this
        unfold ov at this; omega
    have hp2 := put_of h ma mpl m0 mp (by omega) (mc.imp (fun z => by omega) id) (by omega)
    refine ⟨_, hp2, ?_, ?_, ?_, ?_⟩
    · exact bld_lt h (by split <;> omega) (Nat.mod_lt _ hq)
    · exact cl_bld h (by split <;> omega) (Nat.mod_lt _ hq)
    · exact (bld_parts h (by split <;> omega) (Nat.mod_lt _ hq)).1
    · rw [sz_bld h (by split <;> omega) (Nat.mod_lt _ hq)]
      by_cases hm : m < 2 ^ (f.p - 1)
      · rw [if_pos hm, if_pos rfl, Nat.mod_eq_of_lt hm]
        rcases mc with z | z
        · rw [z]; simp
        · omega
      · rw [if_neg hm, if_neg (by omega), Nat.mod_eq_sub_mod (by omega), Nat.mod_eq_of_lt (by omega)]
        congr 2 <;> omega
  · intro hge
    have hE : 2 ^ f.w - 1 ≤ c' + 1 := by
      apply Classical.byContradiction; intro k
      have : m * 2 ^ c' < 2 ^ (f.p + c') := by rw [Nat.pow_add]; exact Nat.mul_lt_mul_of_pos_right mp (Nat.two_pow_pos _)
      have : 2 ^ (f.p + c') ≤ 2 ^ f.ov := Nat.pow_le_pow_right (by omega) (by unfold ov; omega)
      omega
    have hc1 : 2 ^ (f.p - 1) ≤ m := by rcases mc with z | z <;> omega
    exact put_over h ma mpl m0 hc1 (by omega)
theorem sz_ov (h : f.ok) (hb : f.cl b ≤ 2) : f.sz b < 2 ^ f.ov := by
  have hB := bounds h
  have e := ex_cl hb h
  have m := mg_lt h (b := b)
  unfold sz
  refine Nat.lt_of_lt_of_le (Nat.mul_lt_mul_of_pos_right m (Nat.two_pow_pos _)) ?_
  rw [← Nat.pow_add]
  exact Nat.pow_le_pow_right (by omega) (by unfold ov; omega)
/-- Bits of one sign and size are the same bits. -/
theorem sz_inj (h : f.ok) {a b : Nat} (ha : a < 2 ^ (f.p + f.w)) (hb : b < 2 ^ (f.p + f.w)) (hs : f.sn a = f.sn b) (hz : f.sz a = f.sz b) : a = b := by
  have hB := bounds h
  have e : 2 ^ (f.p + f.w) = 2 * 2 ^ (f.p + f.w - 1) := by rw [← Nat.pow_succ']; congr 1; omega
  have red : ∀ c, c < 2 ^ (f.p + f.w) → ∃ d, d < 2 ^ (f.p + f.w - 1) ∧ f.sz c = f.sz d ∧ ((f.sn c = true ∧ c = d + 2 ^ (f.p + f.w - 1)) ∨ (f.sn c = false ∧ c = d)) := by
    intro c hc
    have x := bld_self h (b := c)
    rw [Nat.mod_eq_of_lt hc] at x
    have d1 := bld_parts h (neg := false) (ex_lt (f := f) (b := c)) (fr_lt h (b := c))
    have d2 : f.bld false (f.ex c) (f.fr c) < 2 ^ (f.p + f.w - 1) := by
      have e1 := ex_lt (f := f) (b := c)
      have e2 := fr_lt h (b := c)
      have e3 : 2 ^ (f.p + f.w - 1) = 2 ^ f.w * 2 ^ (f.p - 1) := by rw [← Nat.pow_add]; congr 1; omega
      unfold bld; rw [if_neg (by simp), Nat.add_zero, e3]
      have := Nat.mul_le_mul_right (2 ^ (f.p - 1)) (show f.ex c + 1 ≤ 2 ^ f.w from e1)
      rw [Nat.add_mul] at this; omega
    refine ⟨_, d2, ?_, ?_⟩
    · unfold sz mg; rw [d1.2.1, d1.2.2]
    · cases hs : f.sn c with
      | true => left; refine ⟨rfl, ?_⟩; rw [hs] at x; unfold bld at x ⊢; rw [if_pos rfl] at x; simp; omega
      | false => right; refine ⟨rfl, ?_⟩; rw [hs] at x; exact x.symm
  obtain ⟨a', la, za, ca⟩ := red a ha
  obtain ⟨b', lb, zb, cb⟩ := red b hb
  have : a' = b' := by
    rw [za, zb] at hz
    have k1 := @sz_lt f h a' b'
    have k2 := @sz_lt f h b' a'
    apply Classical.byContradiction; intro n
    by_cases l : a' < b'
    · have := k1 l lb; omega
    · have := k2 (by omega) la; omega
  subst this
  rcases ca with ⟨s1, e1⟩ | ⟨s1, e1⟩ <;> rcases cb with ⟨s2, e2⟩ | ⟨s2, e2⟩
  · omega
  · rw [s1, s2] at hs; cases hs
  · rw [s1, s2] at hs; cases hs
  · omega
end
end Fm
end Go.Proofs.Ytlaffgojgfdlnaa.N
set_option linter.unusedVariables false
namespace Go.Proofs.Ytlaffgojgfdlnaa.N
open Go.RowKit Go.Proofs.Ytlaffgojgfdlnaa.P Go.Proofs.YtlaffgojgfdlnaaW.PrintWords Go.Proofs.YtlaffgojgfdlnaaW.PrintMore Sk
open Dy
/-! ### Numbers, rounded to a format -/
/-- May be rounded. -/
def rmay (a : Dy) : Bool := a.may && (a.plain.may && decide (a.n = 0 ∨ a.plain.e + nlen a.plain.n - 1 ≤ 8000))
def tk (a : Dy) : Dy × Int := if rmay a = true then (a.plain, 0) else (Dy.zero, 3)
theorem rmay_iff {a : Dy} : rmay a = true ↔ a.may = true ∧ a.plain.may = true ∧ (a.n = 0 ∨ a.plain.e + nlen a.plain.n - 1 ≤ 8000) := by
  unfold rmay; rw [Bool.and_eq_true, Bool.and_eq_true, decide_eq_true_eq]
theorem rmay_plain {a : Dy} (h : rmay a = true) : rmay a.plain = true := by
  rw [rmay_iff] at h ⊢
  rw [plain_plain]
  exact ⟨h.2.1, h.2.1, h.2.2.imp (fun z => plain_n.2 z) id⟩
/-- A number of few parts and a small exponent may be rounded. -/
theorem rmay_of {a : Dy} (h1 : nlen a.n ≤ 4000) (h2 : -8192 ≤ a.e) (h3 : a.e ≤ 3900) : rmay a = true := by
  refine rmay_iff.2 ⟨may_of (k := 4096) (by omega) (by omega) h2 (by omega), plain_may h1 h2 (by omega), ?_⟩
  by_cases h0 : a.n = 0
  · exact .inl h0
  · have := top_plain h0; right; omega
/-- A cut at a place, in other places. -/
theorem cut_scale {n j k kl kr : Nat} (h : kl + k = j + kr) (h' : kl = 0 ∨ kr = 0) :
    n * 2 ^ kl / 2 ^ kr = n * 2 ^ j / 2 ^ k ∧ hf kr n = hf k (n * 2 ^ j) ∧ ls kr n = ls k (n * 2 ^ j) := by
  by_cases h0 : kr = 0
  · subst h0
    have ej : j = kl + k := by omega
    subst ej
    refine ⟨?_, ?_, ?_⟩
    · rw [Nat.pow_zero, Nat.div_one, Nat.pow_add, ← Nat.mul_assoc, Nat.mul_div_cancel _ (Nat.two_pow_pos k)]
    · have e1 : hf 0 n = false := by unfold hf; simp
      rw [e1]; symm; unfold hf; rw [decide_eq_false_iff_not]
      rintro ⟨k0, hk⟩
      rw [show kl + k = (kl + 1) + (k - 1) by omega, Nat.pow_add, ← Nat.mul_assoc, Nat.mul_div_cancel _ (Nat.two_pow_pos _), Nat.pow_succ, ← Nat.mul_assoc] at hk
      omega
    · have e1 : ls 0 n = false := by unfold ls; simp
      rw [e1]; symm; unfold ls; rw [decide_eq_false_iff_not]
      rintro ⟨k0, hk⟩
      rw [show kl + k = (kl + 1) + (k - 1) by omega, Nat.pow_add, ← Nat.mul_assoc, Nat.mul_mod_left] at hk
      exact hk rfl
  · have hl : kl = 0 := by omega
    subst hl
    have ek : k = kr + j := by omega
    subst ek
    refine ⟨?_, ?_, ?_⟩
    · rw [Nat.pow_zero, Nat.mul_one, Nat.pow_add, Nat.mul_div_mul_right _ _ (Nat.two_pow_pos j)]
    · unfold hf
      rw [show kr + j - 1 = (kr - 1) + j by omega, Nat.pow_add, Nat.mul_div_mul_right _ _ (Nat.two_pow_pos j)]
      refine decide_eq_decide.2 ⟨fun z => ⟨by omega, z.2⟩, fun z => ⟨h0, z.2⟩⟩
    · unfold ls
      rw [show kr + j - 1 = (kr - 1) + j by omega, Nat.pow_add, Nat.mul_mod_mul_right]
      refine decide_eq_decide.2 ⟨fun z => ⟨by omega, mul_pow_ne z.2 j⟩, fun z => ⟨h0, fun e => z.2 (by rw [e, Nat.zero_mul])⟩⟩
namespace Fm
/-- A number's place; how far it goes to the left, to the right. -/
def plc (f : Fm) (q : Dy) : Int := max (q.e + nlen q.n - 1 - f.p + 1) f.low
def kl (f : Fm) (q : Dy) : Nat := (q.e - f.plc q).toNat
def kr (f : Fm) (q : Dy) : Nat := (f.plc q - q.e).toNat
def ctn (f : Fm) (q : Dy) : Nat := q.n * 2 ^ f.kl q / 2 ^ f.kr q
def ctu (f : Fm) (mode : Int) (q : Dy) : Bool := upb mode q.neg (odd (f.ctn q)) (hf (f.kr q) q.n) (ls (f.kr q) q.n)
def tny (f : Fm) (q : Dy) : Bool := decide (q.e + nlen q.n - 1 < f.low + f.p - 1)
def beyond (f : Fm) (mode : Int) (neg : Bool) : Nat := if mode = 1 ∨ mode = 2 ∧ neg = false ∨ mode = 3 ∧ neg = true then f.grt neg else f.inf neg
/-- The plain form of a number that isn't 0, rounded. -/
def rpl (f : Fm) (mode : Int) (q : Dy) : Nat × Int × Int :=
  if (f.put ⟨q.neg, f.ctn q + (if f.ctu mode q = true then 1 else 0), f.plc q⟩).2 ≠ 0 then (f.beyond mode q.neg, 5, 0) else
    (if f.ctn q + (if f.ctu mode q = true then 1 else 0) = 0 then f.bld q.neg 0 0 else (f.put ⟨q.neg, f.ctn q + (if f.ctu mode q = true then 1 else 0), f.plc q⟩).1,
      if (hf (f.kr q) q.n || ls (f.kr q) q.n) = true then (if f.tny q = true then 3 else 1) else 0, 0)
def rto (f : Fm) (mode : Int) (a : Dy) (neg : Bool) : Nat × Int × Int :=
  if mode < 0 ∨ 5 ≤ mode then (0, 0, 1) else if rmay a = true then (if a.n = 0 then (f.bld neg 0 0, 0, 0) else f.rpl mode a.plain) else (0, 0, 3)
/-- The flags of what isn't beyond. -/
def fl (f : Fm) (s x : Nat) : Int := if x % 2 ^ kp f.p s x = 0 then 0 else if nlen x < f.p + s then 3 else 1
section
variable {f : Fm}
/-- The cut of a plain number, of its value in places of 2 to E. -/
theorem cut_eq {q : Dy} (h0 : q.n ≠ 0) {E : Int} (hE : E ≤ q.e) (hL : E ≤ f.low) {x s : Nat} (hx : x = q.dv E) (hs : s = (f.low - E).toNat) :
    f.plc q = E + kp f.p s x ∧ f.ctn q = x / 2 ^ kp f.p s x ∧ hf (f.kr q) q.n = hf (kp f.p s x) x ∧ ls (f.kr q) q.n = ls (kp f.p s x) x ∧ q.e + nlen q.n = E + nlen x := by
  obtain ⟨j, hj⟩ : ∃ j, j = (q.e - E).toNat := ⟨_, rfl⟩
  have ex : x = q.n * 2 ^ j := by rw [hx, hj]; rfl
  have nx : nlen x = nlen q.n + j := by rw [ex]; exact nlen_mul_pow h0 j
  have pe : f.plc q = E + kp f.p s x := by unfold plc kp; omega
  have := cut_scale (n := q.n) (j := j) (k := kp f.p s x) (kl := f.kl q) (kr := f.kr q) (by unfold kl kr; omega) (by unfold kl kr; omega)
  rw [← ex] at this
  exact ⟨pe, this.1, this.2.1, this.2.2, by omega⟩
theorem put_zero {neg : Bool} {e : Int} (h1 : -8192 ≤ e) (h2 : e ≤ 8192) : f.put ⟨neg, 0, e⟩ = (0, 0) := by
  unfold put; rw [if_pos (may_of (k := 0) (by show nlen 0 ≤ 0; rw [nlen_zero]; omega) (by omega) h1 h2), if_pos rfl]
theorem zero_bits (h : f.ok) (neg : Bool) : f.bld neg 0 0 < 2 ^ (f.p + f.w) ∧ f.cl (f.bld neg 0 0) = 0 ∧ f.sn (f.bld neg 0 0) = neg ∧ f.sz (f.bld neg 0 0) = 0 := by
  have hw := Nat.two_pow_pos f.w
  have hq := Nat.two_pow_pos (f.p - 1)
  have hp := bld_parts h (neg := neg) hw hq
  refine ⟨bld_lt h hw hq, ?_, hp.1, ?_⟩
  · unfold cl; rw [hp.2.1, hp.2.2]; rfl
  · rw [sz_bld h hw hq]; rfl
/-- WHAT ROUNDING TELLS. -/
theorem rto_spec (h : f.ok) {mode : Int} (hm : 0 ≤ mode ∧ mode < 5) {a : Dy} (ha : rmay a = true) (h0 : a.n ≠ 0) (neg : Bool) {E : Int} (hE : E ≤ a.e) (hL : E ≤ f.low) {x s : Nat} (hx : x = a.dv E) (hs : s = (f.low - E).toNat) :
    (rd mode a.neg f.p s x < 2 ^ (s + f.ov) ∧ ∃ b, f.rto mode a neg = (b, f.fl s x, 0) ∧ b < 2 ^ (f.p + f.w) ∧ f.cl b ≤ 2 ∧ f.sn b = a.neg ∧ f.sz b * 2 ^ s = rd mode a.neg f.p s x) ∨
    (2 ^ (s + f.ov) ≤ rd mode a.neg f.p s x ∧ f.rto mode a neg = (f.beyond mode a.neg, 5, 0)) := by
  have hB := bounds h
  obtain ⟨m1, m2, m3⟩ := rmay_iff.1 ha
  have b1 := may_iff.1 m2
  have e1 : f.rto mode a neg = f.rpl mode a.plain := by unfold rto; rw [if_neg (by omega), if_pos ha, if_neg h0]
  have ge := plain_e_ge a h0
  have q0 : a.plain.n ≠ 0 := fun e => h0 (plain_n.1 e)
  have qn := plain_neg h0
  have hx' : x = a.plain.dv E := by rw [hx, dv_plain hE]
  rw [e1]
  generalize a.plain = q at *
  obtain ⟨c1, c2, c3, c4, c5⟩ := cut_eq q0 (by omega) hL hx' hs
  have kg := kp_ge f.p s x
  have x0 : x ≠ 0 := by rw [hx']; exact dv_ne q0 E
  have eN : f.ctn q + (if f.ctu mode q = true then 1 else 0) = rn mode a.neg (kp f.p s x) x := by
    unfold rn ups ctu; rw [c2, c3, c4, qn]
  have rl := rn_le mode a.neg f.p s x
  have plb : f.low ≤ f.plc q ∧ f.plc q ≤ 8000 := by unfold plc; omega
  have efl : (if (hf (f.kr q) q.n || ls (f.kr q) q.n) = true then (if f.tny q = true then (3 : Int) else 1) else 0) = f.fl s x := by
    unfold fl tny
    rw [c3, c4]
    by_cases hr : x % 2 ^ kp f.p s x = 0
    · rw [if_pos hr, if_neg (fun z => inex_iff.1 z hr)]
    · rw [if_neg hr, if_pos (inex_iff.2 hr)]
      by_cases ht : nlen x < f.p + s
      · rw [if_pos ht, if_pos (decide_eq_true (by omega))]
      · rw [if_neg ht, if_neg (by rw [decide_eq_true_eq]; omega)]
  have hrd : rd mode a.neg f.p s x = rn mode a.neg (kp f.p s x) x * 2 ^ kp f.p s x := rfl
  unfold rpl
  rw [efl, eN, qn]
  generalize rn mode a.neg (kp f.p s x) x = N at *
  by_cases hN : N = 0
  · left
    subst hN
    rw [hrd, put_zero (by omega) (by omega), Nat.zero_mul]
    obtain ⟨z1, z2, z3, z4⟩ := zero_bits h a.neg
    exact ⟨Nat.two_pow_pos _, f.bld a.neg 0 0, by simp, z1, by omega, z3, by rw [z4, Nat.zero_mul]⟩
  · obtain ⟨c, hc⟩ : ∃ c, c = kp f.p s x - s := ⟨_, rfl⟩
    have ec : f.plc q = f.low + c := by omega
    have ek : kp f.p s x = c + s := by omega
    have en := enc h (neg := a.neg) (N := N) (c := c) hN rl.1 (by by_cases z : c = 0; · exact .inl z
                                                                  · exact .inr (rl.2 (by omega) (by omega))) (by omega)
    rw [hrd, ec, ek, Nat.pow_add, ← Nat.mul_assoc]
    have hsp := Nat.two_pow_pos s
    rw [Nat.add_comm s, Nat.pow_add]
    by_cases hlt : N * 2 ^ c < 2 ^ f.ov
    · left
      obtain ⟨b, hb, l1, l2, l3, l4⟩ := en.1 hlt
      refine ⟨Nat.mul_lt_mul_of_pos_right hlt hsp, b, ?_, l1, l2, l3, by rw [l4]⟩
      rw [hb, if_neg (by simp), if_neg hN]
    · right
      refine ⟨Nat.mul_le_mul_right _ (by omega), ?_⟩
      rw [en.2 (by omega), if_pos (by decide)]
end
end Fm
end Go.Proofs.Ytlaffgojgfdlnaa.N
set_option linter.unusedVariables false
namespace Go.Proofs.Ytlaffgojgfdlnaa.N
open Go.RowKit Go.Proofs.Ytlaffgojgfdlnaa.P Go.Proofs.YtlaffgojgfdlnaaW.PrintWords Go.Proofs.YtlaffgojgfdlnaaW.PrintMore Sk
open Dy
/-! ### What is told, as a number -/
/-- Modes and signs that go towards 0; away from 0. -/
def Tow (mode : Int) (neg : Bool) : Prop := mode = 1 ∨ mode = 2 ∧ neg = false ∨ mode = 3 ∧ neg = true
def Aw (mode : Int) (neg : Bool) : Prop := mode = 2 ∧ neg = true ∨ mode = 3 ∧ neg = false
theorem tow_ups {mode : Int} {neg : Bool} (h : Tow mode neg) (k x : Nat) : ups mode neg k x = false := by
  cases hu : ups mode neg k x with
  | false => rfl
  | true =>
    rw [ups_iff] at hu
    rcases h with rfl | ⟨rfl, rfl⟩ | ⟨rfl, rfl⟩ <;> simp at hu
theorem rd_tow {mode : Int} {neg : Bool} (h : Tow mode neg) (p s x : Nat) : rd mode neg p s x ≤ x := by
  have := rn_bounds mode neg (kp p s x) x
  have e := this.2.2.2.2 (tow_ups h _ _)
  have := Nat.div_mul_le_self x (2 ^ kp p s x)
  unfold rd; omega
theorem rd_exact {mode : Int} {neg : Bool} {p s x : Nat} (h : x % 2 ^ kp p s x = 0) : rd mode neg p s x = x := (rn_bounds mode neg (kp p s x) x).2.2.1 h
/-- The other sign, Down and Up changing places. -/
def oth (mode : Int) : Int := if mode = 2 then 3 else if mode = 3 then 2 else mode
namespace Fm
section
variable {f : Fm} {b : Nat}
theorem grt_cl (h : f.ok) (neg : Bool) : f.cl (f.grt neg) = 2 ∧ f.grt neg < 2 ^ (f.p + f.w) ∧ f.sn (f.grt neg) = neg ∧ f.sz (f.grt neg) = f.sz (f.grt false) := by
  rcases h with rfl | rfl | rfl <;> cases neg <;> decide +kernel
theorem inf_cl (h : f.ok) (neg : Bool) : f.cl (f.inf neg) = 3 ∧ f.inf neg < 2 ^ (f.p + f.w) ∧ f.sn (f.inf neg) = neg := by
  rcases h with rfl | rfl | rfl <;> cases neg <;> decide +kernel
/-- Bits without their sign. -/
theorem red (h : f.ok) (hb : b < 2 ^ (f.p + f.w)) : ∃ d, d < 2 ^ (f.p + f.w - 1) ∧ f.sz b = f.sz d ∧ f.cl b = f.cl d ∧ b = d + (if f.sn b = true then 2 ^ (f.p + f.w - 1) else 0) := by
  have hB := bounds h
  have x := bld_self h (b := b)
  rw [Nat.mod_eq_of_lt hb] at x
  have d1 := bld_parts h (neg := false) (ex_lt (f := f) (b := b)) (fr_lt h (b := b))
  have d2 : f.bld false (f.ex b) (f.fr b) < 2 ^ (f.p + f.w - 1) := by
    have e1 := ex_lt (f := f) (b := b)
    have e2 := fr_lt h (b := b)
    have e3 : 2 ^ (f.p + f.w - 1) = 2 ^ f.w * 2 ^ (f.p - 1) := by rw [← Nat.pow_add]; congr 1; omega
    unfold bld; rw [if_neg (by simp), Nat.add_zero, e3]
    have := Nat.mul_le_mul_right (2 ^ (f.p - 1)) (show f.ex b + 1 ≤ 2 ^ f.w from e1)
    rw [Nat.add_mul] at this; omega
  refine ⟨_, d2, ?_, ?_, ?_⟩
  · unfold sz mg; rw [d1.2.1, d1.2.2]
  · unfold cl; rw [d1.2.1, d1.2.2]
  · conv => lhs; rw [← x]
    unfold bld; simp
theorem xor_high {d k : Nat} (hd : d < 2 ^ k) : (d + 2 ^ k) ^^^ d = 2 ^ k := by
  have e : d + 2 ^ k = 2 ^ k ^^^ d := by
    apply Nat.eq_of_testBit_eq
    intro i
    rw [Nat.add_comm, Nat.testBit_xor, Nat.testBit_two_pow]
    by_cases hi : i < k
    · rw [Nat.testBit_two_pow_add_gt hi, decide_eq_false (show ¬ k = i by omega), Bool.false_xor]
    · by_cases e : i = k
      · subst e; rw [Nat.testBit_two_pow_add_eq, Nat.testBit_lt_two_pow hd, decide_eq_true rfl]; rfl
      · have : 2 ^ k + d < 2 ^ i := Nat.lt_of_lt_of_le (show 2 ^ k + d < 2 ^ (k + 1) by rw [Nat.pow_succ]; omega) (Nat.pow_le_pow_right (by omega) (by omega))
        rw [Nat.testBit_lt_two_pow this, Nat.testBit_lt_two_pow (show d < 2 ^ i by omega), decide_eq_false (show ¬ k = i by omega)]; rfl
  rw [e, Nat.xor_assoc, Nat.xor_self, Nat.xor_zero]
/-- Bits as a number, what is infinite as one beyond all. -/
def wv (f : Fm) (b : Nat) : Dy := if f.cl b = 3 then ⟨f.sn b, 1, 5000⟩ else (f.val b).1
/-- The number that is told, in places of 2 to E. -/
def rz (f : Fm) (mode : Int) (neg : Bool) (s x : Nat) : Nat :=
  if rd mode neg f.p s x < 2 ^ (s + f.ov) then rd mode neg f.p s x else if f.beyond mode neg = f.grt neg then f.sz (f.grt false) * 2 ^ s else 2 ^ (5000 - f.low + s).toNat
theorem beyond_tow (h : f.ok) {mode : Int} {neg : Bool} : (Tow mode neg → f.beyond mode neg = f.grt neg) ∧ (¬ Tow mode neg → f.beyond mode neg = f.inf neg ∧ f.inf neg ≠ f.grt neg) := by
  refine ⟨fun t => if_pos t, fun t => ⟨if_neg t, fun e => ?_⟩⟩
  have h1 := (grt_cl h neg).1
  have h2 := (inf_cl h neg).1
  rw [e] at h2; omega
theorem grt_lt (h : f.ok) (s : Nat) : f.sz (f.grt false) * 2 ^ s < 2 ^ (s + f.ov) := by
  rw [Nat.add_comm, Nat.pow_add]
  exact Nat.mul_lt_mul_of_pos_right (sz_ov h (by rw [(grt_cl h false).1]; omega)) (Nat.two_pow_pos s)
theorem val_va {b : Nat} (hb : b < 2 ^ (f.p + f.w)) (hc : f.cl b ≤ 2) {E : Int} {s : Nat} (hs : E + s = f.low) : Va (f.val b).1 E (if f.sn b = true then -((f.sz b * 2 ^ s : Nat) : Int) else ((f.sz b * 2 ^ s : Nat) : Int)) := by
  have hv : f.val b = ((f.raw b).plain, 0) := by unfold val; rw [if_neg (by omega), if_neg (by omega)]
  rw [hv]
  refine Va.plain (a := f.raw b) ⟨fun _ => by show E ≤ f.pl b; rw [pl_eq]; omega, ?_⟩
  have : (f.raw b).dv E = f.sz b * 2 ^ s := by
    unfold Dy.dv
    show f.mg b * 2 ^ (f.pl b - E).toNat = f.mg b * 2 ^ (f.ex b - 1) * 2 ^ s
    rw [pl_eq, show (f.low + ((f.ex b - 1 : Nat) : Int) - E).toNat = f.ex b - 1 + s by omega, Nat.pow_add, Nat.mul_assoc]
  unfold Dy.sv
  rw [this]; rfl
end
end Fm
end Go.Proofs.Ytlaffgojgfdlnaa.N
set_option linter.unusedVariables false
namespace Go.Proofs.Ytlaffgojgfdlnaa.N
open Go.RowKit Go.Proofs.Ytlaffgojgfdlnaa.P Go.Proofs.YtlaffgojgfdlnaaW.PrintWords Go.Proofs.YtlaffgojgfdlnaaW.PrintMore Sk
open Dy
namespace Fm
section
variable {f : Fm} {b : Nat}
theorem fl_cases (s x : Nat) : f.fl s x = 0 ∨ f.fl s x = 1 ∨ f.fl s x = 3 := by unfold fl; split; exact .inl rfl; split; exact .inr (.inr rfl); exact .inr (.inl rfl)
theorem lt64 (h : f.ok) (hb : b < 2 ^ (f.p + f.w)) : b < 2 ^ 64 := Nat.lt_of_lt_of_le hb (Nat.pow_le_pow_right (by omega) (by have := bounds h; omega))
theorem sz_zero_bits (h : f.ok) (hb : b < 2 ^ (f.p + f.w)) (hz : f.sz b = 0) : b = f.bld (f.sn b) 0 0 := by
  obtain ⟨z1, z2, z3, z4⟩ := zero_bits h (f.sn b)
  exact sz_inj h hb z1 z3.symm (by rw [hz, z4])
theorem sz_zero (hc : f.cl b ≤ 2) : f.sz b = 0 ↔ f.mg b = 0 := by
  unfold sz
  have := Nat.two_pow_pos (f.ex b - 1)
  rw [Nat.mul_eq_zero]; omega
theorem val_raw (hb : b < 2 ^ (f.p + f.w)) (hc : f.cl b ≤ 2) : f.val b = ((f.raw b).plain, 0) := by unfold val; rw [if_neg (by omega), if_neg (by omega)]
theorem val_dv {E : Int} {s : Nat} (hs : E + s = f.low) : (f.raw b).plain.dv E = f.sz b * 2 ^ s := by
  have e1 : E ≤ (f.raw b).e := by show E ≤ f.pl b; rw [pl_eq]; omega
  rw [dv_plain e1]
  unfold Dy.dv
  show f.mg b * 2 ^ (f.pl b - E).toNat = f.mg b * 2 ^ (f.ex b - 1) * 2 ^ s
  rw [pl_eq, show (f.low + ((f.ex b - 1 : Nat) : Int) - E).toNat = f.ex b - 1 + s by omega, Nat.pow_add, Nat.mul_assoc]
theorem raw_e (h0 : f.mg b ≠ 0) : f.low ≤ (f.raw b).plain.e := by
  have := plain_e_ge (f.raw b) h0
  have e1 : (f.raw b).e = f.pl b := rfl
  have := pl_eq (f := f) b
  omega
theorem val_rmay (h : f.ok) : rmay (f.raw b).plain = true := by
  have hB := bounds h
  have vb := pl_b h (b := b)
  have nl := nlen_le_iff.2 (mg_lt h (b := b))
  refine rmay_plain (rmay_of ?_ ?_ ?_)
  · show nlen (f.mg b) ≤ 4000; omega
  · show -8192 ≤ f.pl b; omega
  · show f.pl b ≤ 3900; omega
theorem sz_few (h : f.ok) : f.sz b % 2 ^ kp f.p 0 (f.sz b) = 0 := by
  have := nlen_shift_le (f.mg b) (f.ex b - 1)
  have nl := nlen_le_iff.2 (mg_lt h (b := b))
  unfold sz
  have : kp f.p 0 (f.mg b * 2 ^ (f.ex b - 1)) ≤ f.ex b - 1 := by unfold kp; omega
  generalize kp f.p 0 _ = K at *
  have e : f.mg b * 2 ^ (f.ex b - 1) = f.mg b * 2 ^ (f.ex b - 1 - K) * 2 ^ K := by rw [Nat.mul_assoc, ← Nat.pow_add, Nat.sub_add_cancel this]
  rw [e, Nat.mul_mod_left]
/-- The law RoundKeeps. -/
theorem keeps (h : f.ok) (hb : b < 2 ^ (f.p + f.w)) (hc : f.cl b ≤ 2) {mode : Int} (hm : 0 ≤ mode ∧ mode < 5) : f.rto mode (f.raw b).plain (f.sn b) = (b, 0, 0) := by
  have ra := val_rmay h (b := b)
  by_cases h0 : f.mg b = 0
  · have n0 : (f.raw b).plain.n = 0 := plain_n.2 h0
    unfold rto
    rw [if_neg (by omega), if_pos ra, if_pos n0, ← sz_zero_bits h hb ((sz_zero hc).2 h0)]
  · have n0 : (f.raw b).plain.n ≠ 0 := fun e => h0 (plain_n.1 e)
    have pn : (f.raw b).plain.neg = f.sn b := plain_neg (a := f.raw b) h0
    have dv := val_dv (f := f) (b := b) (E := f.low) (s := 0) (by omega)
    rw [Nat.pow_zero, Nat.mul_one] at dv
    have sp := rto_spec h hm ra n0 (f.sn b) (E := f.low) (raw_e h0) (Int.le_refl _) (x := f.sz b) (s := 0) dv.symm (by omega)
    rw [rd_exact (sz_few h), Nat.zero_add, Nat.pow_zero] at sp
    have ov := sz_ov h hc
    rcases sp with ⟨_, c, e1, c1, c2, c3, c4⟩ | ⟨l, _⟩
    · have : c = b := sz_inj h c1 hb (by rw [c3, pn]) (by omega)
      rw [e1, this]
      unfold fl; rw [if_pos (sz_few h)]
    · omega
end
end Fm
end Go.Proofs.Ytlaffgojgfdlnaa.N
set_option linter.unusedVariables false
namespace Go.Proofs.Ytlaffgojgfdlnaa.N
open Go.RowKit Go.Proofs.Ytlaffgojgfdlnaa.P Go.Proofs.YtlaffgojgfdlnaaW.PrintWords Go.Proofs.YtlaffgojgfdlnaaW.PrintMore Sk
open Dy
namespace Fm
section
variable {f : Fm} {b : Nat}
/-- What is told, with its sign. -/
def sr (f : Fm) (mode : Int) (s : Nat) (X : Int) : Int := if X < 0 then -((f.rz mode true s X.natAbs : Nat) : Int) else ((f.rz mode false s X.natAbs : Nat) : Int)
/-- Of an X, what is not beyond is a size that there is. -/
def Fits (f : Fm) (mode : Int) (s : Nat) (X : Int) : Prop := ∀ neg, (neg = decide (X < 0)) → rd mode neg f.p s X.natAbs < 2 ^ (s + f.ov) → rd mode neg f.p s X.natAbs ≤ f.sz (f.grt false) * 2 ^ s
theorem sv_sign {a : Dy} (h0 : a.n ≠ 0) (E : Int) : (a.neg = decide (a.sv E < 0)) ∧ (a.sv E).natAbs = a.dv E := by
  have := dv_ne h0 E
  unfold Dy.sv
  cases a.neg
  · rw [if_neg (by simp)]; exact ⟨(decide_eq_false (by omega)).symm, Int.natAbs_natCast _⟩
  · rw [if_pos rfl]; exact ⟨(decide_eq_true (by omega)).symm, by rw [Int.natAbs_neg, Int.natAbs_natCast]⟩
end
end Fm
theorem Va.abs {a : Dy} {E x : Int} (h : Va a E x) : Va ⟨false, a.n, a.e⟩ E ((x.natAbs : Nat) : Int) := by
  refine ⟨h.1, ?_⟩
  have := h.2
  unfold Dy.sv at this ⊢
  rw [if_neg (by simp)]
  show ((a.dv E : Nat) : Int) = _
  split at this <;> omega
end Go.Proofs.Ytlaffgojgfdlnaa.N
