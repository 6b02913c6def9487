/- What the operations on 64 bits (and, or, xor, shifts, masks) are as whole numbers, within the bounds that each theorem names. -/
import Derived.Test.YtlaffgojgfdlnaaN21
import Derived.Test.YtlaffgojgfdlnaaPx0
set_option linter.unusedVariables false
namespace Go.Proofs.Ytlaffgojgfdlnaa.N
open Go.RowKit Go.Proofs.Ytlaffgojgfdlnaa.P Go.Proofs.YtlaffgojgfdlnaaW.PrintWords Go.Proofs.YtlaffgojgfdlnaaW.PrintMore Sk
open Dy
/-! ### 64 bits -/
theorem ofInt_nat (m : Nat) : BitVec.ofInt 64 (m : Int) = BitVec.ofNat 64 m := BitVec.ofInt_natCast 64 m
theorem wrapU {x : Int} (h0 : 0 ≤ x) (h1 : x < 18446744073709551616) : IntKind.wrap .u64 x = x := by rw [IntKind.wrap_u64]; omega
theorem uN_and {m n : Nat} (hm : m < 2 ^ 64) (hn : n < 2 ^ 64) : IntKind.wrap .u64 (((BitVec.ofInt (IntKind.bits .u64) (m : Int) &&& BitVec.ofInt (IntKind.bits .u64) (n : Int)).toNat : Nat) : Int) = ((m &&& n : Nat) : Int) := by
  rw [show IntKind.bits .u64 = 64 from rfl, ofInt_nat, ofInt_nat, BitVec.toNat_and, BitVec.toNat_ofNat, BitVec.toNat_ofNat, Nat.mod_eq_of_lt hm, Nat.mod_eq_of_lt hn]
  have : m &&& n ≤ m := Nat.and_le_left
  exact wrapU (by omega) (by omega)
theorem uN_or {m n : Nat} (hm : m < 2 ^ 64) (hn : n < 2 ^ 64) : IntKind.wrap .u64 (((BitVec.ofInt (IntKind.bits .u64) (m : Int) ||| BitVec.ofInt (IntKind.bits .u64) (n : Int)).toNat : Nat) : Int) = ((m ||| n : Nat) : Int) := by
  rw [show IntKind.bits .u64 = 64 from rfl, ofInt_nat, ofInt_nat, BitVec.toNat_or, BitVec.toNat_ofNat, BitVec.toNat_ofNat, Nat.mod_eq_of_lt hm, Nat.mod_eq_of_lt hn]
  have : m ||| n < 2 ^ 64 := Nat.or_lt_two_pow hm hn
  exact wrapU (by omega) (by omega)
theorem uN_xor {m n : Nat} (hm : m < 2 ^ 64) (hn : n < 2 ^ 64) : IntKind.wrap .u64 (((BitVec.ofInt (IntKind.bits .u64) (m : Int) ^^^ BitVec.ofInt (IntKind.bits .u64) (n : Int)).toNat : Nat) : Int) = ((m ^^^ n : Nat) : Int) := by
  rw [show IntKind.bits .u64 = 64 from rfl, ofInt_nat, ofInt_nat, BitVec.toNat_xor, BitVec.toNat_ofNat, BitVec.toNat_ofNat, Nat.mod_eq_of_lt hm, Nat.mod_eq_of_lt hn]
  have : m ^^^ n < 2 ^ 64 := Nat.xor_lt_two_pow hm hn
  exact wrapU (by omega) (by omega)
theorem uN_andMask {m k : Nat} (hm : m < 2 ^ 64) (hk : k ≤ 64) : IntKind.wrap .u64 (((BitVec.ofInt (IntKind.bits .u64) (m : Int) &&& BitVec.ofInt (IntKind.bits .u64) ((2 ^ k - 1 : Nat) : Int)).toNat : Nat) : Int) = ((m % 2 ^ k : Nat) : Int) := by
  have : 2 ^ k ≤ 2 ^ 64 := Nat.pow_le_pow_right (by omega) hk
  rw [uN_and hm (by omega), Nat.and_two_pow_sub_one_eq_mod]
theorem uN_andNot {m k : Nat} (hm : m < 2 ^ 64) (hk : k ≤ 64) : IntKind.wrap .u64 (((BitVec.ofInt (IntKind.bits .u64) (m : Int) &&& ~~~ (BitVec.ofInt (IntKind.bits .u64) ((2 ^ k - 1 : Nat) : Int))).toNat : Nat) : Int) = ((m / 2 ^ k * 2 ^ k : Nat) : Int) := by
  have hp : 2 ^ k ≤ 2 ^ 64 := Nat.pow_le_pow_right (by omega) hk
  have h1 := Nat.two_pow_pos k
  rw [show IntKind.bits .u64 = 64 from rfl, ofInt_nat, ofInt_nat, BitVec.toNat_and, BitVec.toNat_not, BitVec.toNat_ofNat, BitVec.toNat_ofNat, Nat.mod_eq_of_lt hm, Nat.mod_eq_of_lt (by omega)]
  have e : m &&& (2 ^ 64 - 1 - (2 ^ k - 1)) = m / 2 ^ k * 2 ^ k := by
    apply Nat.eq_of_testBit_eq
    intro i
    rw [Nat.testBit_and, show 2 ^ 64 - 1 - (2 ^ k - 1) = 2 ^ 64 - ((2 ^ k - 1) + 1) by omega, Nat.testBit_two_pow_sub_succ (by omega), Nat.testBit_two_pow_sub_one, Nat.testBit_mul_two_pow, Nat.testBit_div_two_pow]
    by_cases hi : k ≤ i
    · by_cases hi6 : i < 64
      · rw [decide_eq_true hi6, decide_eq_false (show ¬ i < k by omega), decide_eq_true hi, show i - k + k = i by omega]; simp
      · rw [Nat.testBit_lt_two_pow (show m < 2 ^ i from Nat.lt_of_lt_of_le hm (Nat.pow_le_pow_right (by omega) (by omega))), show i - k + k = i by omega, Nat.testBit_lt_two_pow (show m < 2 ^ i from Nat.lt_of_lt_of_le hm (Nat.pow_le_pow_right (by omega) (by omega)))]; simp
    · rw [decide_eq_true (show i < k by omega), decide_eq_false hi]; simp
  rw [e]
  have := Nat.div_mul_le_self m (2 ^ k)
  exact wrapU (by omega) (by omega)
theorem two_pow_int (k : Nat) : (2 : Int) ^ k = ((2 ^ k : Nat) : Int) := (Int.natCast_pow 2 k).symm
theorem shlU {m k : Nat} (h : m * 2 ^ k < 2 ^ 64) (hk : k ≤ 64) : IntKind.wrap .u64 ((m : Int) * 2 ^ (min ((k : Nat) : Int).toNat (IntKind.bits .u64))) = ((m * 2 ^ k : Nat) : Int) := by
  rw [Int.toNat_natCast, show IntKind.bits .u64 = 64 from rfl, Nat.min_eq_left hk, two_pow_int k, ← Int.natCast_mul]
  exact wrapU (by omega) (by omega)
theorem shrU {m k : Nat} (hk : k ≤ 64) : Int.fdiv (m : Int) (2 ^ (min ((k : Nat) : Int).toNat (IntKind.bits .u64))) = ((m / 2 ^ k : Nat) : Int) := by
  rw [Int.toNat_natCast, show IntKind.bits .u64 = 64 from rfl, Nat.min_eq_left hk, two_pow_int k, Int.fdiv_eq_ediv_of_nonneg _ (Int.natCast_nonneg _), ← Int.natCast_ediv]
theorem maskU {k : Nat} (hk : k ≤ 64) : IntKind.wrap .u64 (IntKind.wrap .u64 (1 * 2 ^ (min ((k : Nat) : Int).toNat (IntKind.bits .u64))) - 1) = ((2 ^ k - 1 : Nat) : Int) := by
  have h1 := Nat.two_pow_pos k
  have h2 : 2 ^ k ≤ 2 ^ 64 := Nat.pow_le_pow_right (by omega) hk
  rw [Int.toNat_natCast, show IntKind.bits .u64 = 64 from rfl, Nat.min_eq_left hk, two_pow_int k]
  simp only [IntKind.wrap_u64]
  omega
/-- Bits laid side by side. -/
theorem or_beside {a k x : Nat} (h : x < 2 ^ k) : a * 2 ^ k ||| x = a * 2 ^ k + x := by
  rw [Nat.mul_comm, Nat.two_pow_add_eq_or_of_lt h]
theorem or_bit (x k : Nat) : x ||| 2 ^ k = if x / 2 ^ k % 2 = 1 then x else x + 2 ^ k := by
  have e : x ||| 2 ^ k = (x / 2 ^ k ||| 1) * 2 ^ k + x % 2 ^ k := by
    have h1 : x = x / 2 ^ k * 2 ^ k ||| x % 2 ^ k := by rw [or_beside (Nat.mod_lt _ (Nat.two_pow_pos k)), Nat.div_add_mod']
    have h2 : (x / 2 ^ k ||| 1) * 2 ^ k = x / 2 ^ k * 2 ^ k ||| 2 ^ k := by
      have := Nat.shiftLeft_or_distrib (a := x / 2 ^ k) (b := 1) (i := k)
      simpa [Nat.shiftLeft_eq] using this
    rw [← or_beside (Nat.mod_lt _ (Nat.two_pow_pos k)), h2]
    conv => lhs; rw [h1]
    rw [Nat.or_assoc, Nat.or_assoc, Nat.or_comm (x % 2 ^ k)]
  have h3 : x / 2 ^ k ||| 1 = if x / 2 ^ k % 2 = 1 then x / 2 ^ k else x / 2 ^ k + 1 := by
    generalize x / 2 ^ k = y
    have : y ||| 1 = (y / 2) * 2 ^ 1 + 1 := by
      have h4 : y = y / 2 * 2 ^ 1 ||| y % 2 := by rw [or_beside (k := 1) (by omega)]; omega
      conv => lhs; rw [h4]
      rw [Nat.or_assoc, show y % 2 ||| 1 = 1 by rcases Nat.mod_two_eq_zero_or_one y with h | h <;> rw [h] <;> rfl, or_beside (k := 1) (by omega)]
    rw [this]; split <;> omega
  rw [e, h3]
  have := Nat.div_add_mod' x (2 ^ k)
  split
  · exact this
  · rw [Nat.add_mul]; omega
end Go.Proofs.Ytlaffgojgfdlnaa.N
