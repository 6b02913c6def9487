/- What nat.Word, Bit, Zeros, Left and Right compute, for all lists of 32-bit parts of at most a hundred thousand parts. -/
import Derived.Test.YtgccgmpfcnhbgaaN4
import Derived.Test.YtgccgmpfcnhbgaaPx4
import Derived.Test.YtgccgmpfcnhbgaaPx0
namespace Go.Proofs.Ytgccgmpfcnhbgaa.N
set_option linter.unusedVariables false
open Go.RowKit Go.Proofs.Ytgccgmpfcnhbgaa.P Go.Proofs.YtgccgmpfcnhbgaaW.PrintWords Go.Proofs.YtgccgmpfcnhbgaaW.PrintMore Sk

/-! ### Left, Right: digits -/
/-- Part i of n, for any whole i. -/
def dg (n : Nat) (i : Int) : Nat := if 0 ≤ i then n / 4294967296 ^ i.toNat % 4294967296 else 0
theorem dg_lt (n : Nat) (i : Int) : dg n i < 4294967296 := by unfold dg; split <;> omega
theorem pt_dg {l : List Int} (h : Ok l) (i : Int) : pt l i = ((dg (nv l) i : Nat) : Int) := by
  unfold dg
  by_cases hi : 0 ≤ i
  · obtain ⟨j, rfl⟩ : ∃ j : Nat, i = j := ⟨i.toNat, by omega⟩
    rw [pt_nat h, if_pos hi, Int.toNat_natCast]
  · rw [pt, if_neg hi, if_neg hi]; rfl
theorem dg_testBit (n : Nat) (i : Int) (j : Nat) : (dg n i).testBit j = (decide (j < 32) && decide (0 ≤ i) && n.testBit (32 * i.toNat + j)) := by
  unfold dg
  by_cases hi : 0 ≤ i
  · rw [if_pos hi, show (4294967296 : Nat) = 2 ^ 32 by rfl, Nat.testBit_mod_two_pow, ← Nat.pow_mul, Nat.testBit_div_two_pow, Nat.add_comm j]
    simp [hi]
  · rw [if_neg hi]; simp [hi]
theorem two_testBit {x y : Nat} (hy : y < 4294967296) (j : Nat) : (x * 4294967296 + y).testBit j = if j < 32 then y.testBit j else x.testBit (j - 32) := by
  have := Nat.testBit_two_pow_mul_add x (i := 32) (b := y) (by omega) j
  rw [Nat.mul_comm x]; exact this

theorem left_digit (V n i : Nat) :
    (dg V ((i : Int) - ((n / 32 : Nat) : Int)) * 4294967296 + dg V ((i : Int) - ((n / 32 : Nat) : Int) - 1)) * 2 ^ (n % 32) % 18446744073709551616 / 4294967296 % 4294967296 = V * 2 ^ n / 4294967296 ^ i % 4294967296 := by
  refine Nat.eq_of_testBit_eq fun j => ?_
  rw [show (18446744073709551616 : Nat) = 2 ^ 64 by rfl, B_pow, show (4294967296 : Nat) = 2 ^ 32 by rfl, Nat.testBit_mod_two_pow, Nat.testBit_div_two_pow, Nat.testBit_mod_two_pow, Nat.testBit_mod_two_pow, Nat.testBit_div_two_pow,
    Nat.testBit_mul_two_pow, Nat.testBit_mul_two_pow]
  rw [show (2 : Nat) ^ 32 = 4294967296 by rfl, two_testBit (dg_lt _ _), dg_testBit, dg_testBit]
  by_cases hj : j < 32
  · simp only [hj, decide_true, Bool.true_and]
    rw [show decide (j + 32 < 64) = true by simp; omega, show decide (j + 32 ≥ n % 32) = true by simp; omega]
    simp only [Bool.true_and]
    by_cases h1 : j + 32 - n % 32 < 32
    · rw [if_pos h1]
      simp only [h1, decide_true, Bool.true_and]
      by_cases h2 : 0 ≤ (i : Int) - ((n / 32 : Nat) : Int) - 1
      · rw [show decide (j + 32 * i ≥ n) = true by simp; omega]
        simp only [h2, decide_true, Bool.true_and]
        congr 1; omega
      · rw [show decide (j + 32 * i ≥ n) = false by simp; omega, decide_eq_false h2]
        simp
    · rw [if_neg h1, show decide (j + 32 - n % 32 - 32 < 32) = true by simp; omega]
      simp only [Bool.true_and]
      by_cases h2 : 0 ≤ (i : Int) - ((n / 32 : Nat) : Int)
      · rw [show decide (j + 32 * i ≥ n) = true by simp; omega]
        simp only [h2, decide_true, Bool.true_and]
        congr 1; omega
      · rw [show decide (j + 32 * i ≥ n) = false by simp; omega, decide_eq_false h2]
        simp
  · simp [hj]

theorem right_digit (V n i : Nat) :
    (dg V (((i : Int) + ((n / 32 : Nat) : Int)) + 1) * 4294967296 + dg V ((i : Int) + ((n / 32 : Nat) : Int))) / 2 ^ (n % 32) % 4294967296 = V / 2 ^ n / 4294967296 ^ i % 4294967296 := by
  refine Nat.eq_of_testBit_eq fun j => ?_
  rw [B_pow, show (4294967296 : Nat) = 2 ^ 32 by rfl, Nat.testBit_mod_two_pow, Nat.testBit_div_two_pow, Nat.testBit_mod_two_pow, Nat.testBit_div_two_pow, Nat.testBit_div_two_pow]
  rw [show (2 : Nat) ^ 32 = 4294967296 by rfl, two_testBit (dg_lt _ _), dg_testBit, dg_testBit]
  by_cases hj : j < 32
  · simp only [hj, decide_true, Bool.true_and]
    by_cases h1 : j + n % 32 < 32
    · rw [if_pos h1]
      simp only [h1, decide_true, Bool.true_and]
      rw [show decide (0 ≤ (i : Int) + ((n / 32 : Nat) : Int)) = true by simp; omega]
      simp only [Bool.true_and]
      congr 1; omega
    · rw [if_neg h1, show decide (j + n % 32 - 32 < 32) = true by simp; omega, show decide (0 ≤ (i : Int) + ((n / 32 : Nat) : Int) + 1) = true by simp; omega]
      simp only [Bool.true_and]
      congr 1; omega
  · simp [hj]

theorem tdiv32 (n : Nat) : Int.tdiv (n : Int) 32 = ((n / 32 : Nat) : Int) := rfl
theorem tmod32 (n : Nat) : Int.tmod (n : Int) 32 = ((n % 32 : Nat) : Int) := rfl
theorem shl_u64 {x y : Nat} (hy : y < 64) : shl .u64 (x : Int) (y : Int) = ((x * 2 ^ y % 18446744073709551616 : Nat) : Int) := by
  unfold shl
  rw [Int.toNat_natCast, Nat.min_eq_left (show y ≤ IntKind.u64.bits by simp [IntKind.bits]; omega), IntKind.wrap_u64]
  simp
theorem shr_u64 {x y : Nat} (hy : y < 64) : shr .u64 (x : Int) (y : Int) = ((x / 2 ^ y : Nat) : Int) := by
  unfold shr
  rw [Int.toNat_natCast, Nat.min_eq_left (show y ≤ IntKind.u64.bits by simp [IntKind.bits]; omega)]
  simp

/-- A loop that lays digit by digit. -/
theorem lay_digit {out : List Int} {i N : Nat} (hi : i < out.length) (hz : ∀ j, i ≤ j → out.getD j 0 = 0) (hv : nv out = N % 4294967296 ^ i) :
    nv (out.set i ((N / 4294967296 ^ i % 4294967296 : Nat) : Int)) = N % 4294967296 ^ (i + 1) := by
  have h := nv_set out i ((N / 4294967296 ^ i % 4294967296 : Nat) : Int) hi
  rw [hz i (Nat.le_refl _), Int.toNat_natCast] at h
  rw [mod_step, ← hv]
  simpa using h
theorem zero_set {out : List Int} {i : Nat} {v : Int} (hi : i < out.length) (hz : ∀ j, i ≤ j → out.getD j 0 = 0) : ∀ j, i + 1 ≤ j → (out.set i v).getD j 0 = 0 := by
  intro j hj
  rw [getD_set _ _ _ _ hi, if_neg (by omega)]
  exact hz j (by omega)

theorem left_loop {a : List Int} (ha : Ok a) (la : a.length ≤ 100000) (n : Nat) (hn : n ≤ 100000) (L : Nat) (hL : L ≤ 1000000) (hf : nv a * 2 ^ n < 4294967296 ^ L) (d : Nat) :
    ∀ (i : Nat) (out : List Int), i + d = L → out.length = L → Ok out → (∀ j, i ≤ j → out.getD j 0 = 0) → nv out = (nv a * 2 ^ n) % 4294967296 ^ i →
      Ev (fun k => nat_Nat_Left.l0 k a (n : Int) out (L : Int) (i : Int)) (parts (nv a * 2 ^ n), 0) := by
  induction d with
  | zero =>
    intro i out hi hl ho hz hv
    obtain rfl : i = L := by omega
    refine Ev.succ ?_
    simp only [nat_Nat_Left.l0]
    refine Ev.neg (by omega) (Ev.bind (told_ev ho (by omega)) ?_)
    rw [hv, Nat.mod_eq_of_lt hf]
    exact Ev.done _
  | succ d ih =>
    intro i out hi hl ho hz hv
    refine Ev.succ ?_
    simp only [nat_Nat_Left.l0]
    rw [tdiv32, tmod32, w64 (x := ((n / 32 : Nat) : Int)) (by omega) (by omega), w64 (x := (i : Int) - ((n / 32 : Nat) : Int)) (by omega) (by omega), w64 (x := (i : Int) - ((n / 32 : Nat) : Int) - 1) (by omega) (by omega), w64 (x := (i : Int) + 1) (by omega) (by omega)]
    refine Ev.pos (by omega) (Ev.bind0 (part_eq _ _) (Ev.bind0 (part_eq _ _) (Ev.pos (by omega) (Ev.pos (by omega) (Ev.pos (by omega) ?_)))))
    rw [pt_dg ha, pt_dg ha, both_eq (dg_lt _ _) (dg_lt _ _), shl_u64 (by omega), Int.toNat_natCast, show (i : Int) + 1 = ((i + 1 : Nat) : Int) by omega]
    have e := left_digit (nv a) n i
    rw [show ((((dg (nv a) ((i : Int) - ((n / 32 : Nat) : Int)) * 4294967296 + dg (nv a) ((i : Int) - ((n / 32 : Nat) : Int) - 1)) * 2 ^ (n % 32) % 18446744073709551616 : Nat) : Int)) / 4294967296 % 4294967296 = (((dg (nv a) ((i : Int) - ((n / 32 : Nat) : Int)) * 4294967296 + dg (nv a) ((i : Int) - ((n / 32 : Nat) : Int) - 1)) * 2 ^ (n % 32) % 18446744073709551616 / 4294967296 % 4294967296 : Nat) : Int) by omega, e]
    exact ih (i + 1) _ (by omega) (by simp [hl]) (ok_set ho _ (by omega) (by omega)) (zero_set (by omega) hz) (lay_digit (by omega) hz hv)

theorem right_loop {a : List Int} (ha : Ok a) (la : a.length ≤ 100000) (n : Nat) (hn : n ≤ 10000000) (b : Bool) (d : Nat) :
    ∀ (i : Nat) (out : List Int), i + d = a.length → out.length = a.length → Ok out → (∀ j, i ≤ j → out.getD j 0 = 0) → nv out = (nv a / 2 ^ n) % 4294967296 ^ i →
      Ev (fun k => nat_Nat_Right.l0 k a (n : Int) b out (a.length : Int) (i : Int)) (parts (nv a / 2 ^ n), b) := by
  induction d with
  | zero =>
    intro i out hi hl ho hz hv
    obtain rfl : i = a.length := by omega
    refine Ev.succ ?_
    simp only [nat_Nat_Right.l0]
    refine Ev.neg (by omega) (Ev.bind (told_ev ho (by omega)) ?_)
    rw [hv, Nat.mod_eq_of_lt (Nat.lt_of_le_of_lt (Nat.div_le_self _ _) (nv_lt ha))]
    exact Ev.done _
  | succ d ih =>
    intro i out hi hl ho hz hv
    refine Ev.succ ?_
    simp only [nat_Nat_Right.l0]
    rw [tdiv32, tmod32, w64 (x := ((n / 32 : Nat) : Int)) (by omega) (by omega), w64 (x := (i : Int) + ((n / 32 : Nat) : Int)) (by omega) (by omega), w64 (x := (i : Int) + ((n / 32 : Nat) : Int) + 1) (by omega) (by omega), w64 (x := (i : Int) + 1) (by omega) (by omega)]
    refine Ev.pos (by omega) (Ev.bind0 (part_eq _ _) (Ev.bind0 (part_eq _ _) (Ev.pos (by omega) (Ev.pos (by omega) (Ev.pos (by omega) ?_)))))
    rw [pt_dg ha, pt_dg ha, both_eq (dg_lt _ _) (dg_lt _ _), shr_u64 (by omega), Int.toNat_natCast, show (i : Int) + 1 = ((i + 1 : Nat) : Int) by omega]
    have e := right_digit (nv a) n i
    rw [show ((((dg (nv a) ((i : Int) + ((n / 32 : Nat) : Int) + 1) * 4294967296 + dg (nv a) ((i : Int) + ((n / 32 : Nat) : Int))) / 2 ^ (n % 32) : Nat) : Int)) % 4294967296 = (((dg (nv a) ((i : Int) + ((n / 32 : Nat) : Int) + 1) * 4294967296 + dg (nv a) ((i : Int) + ((n / 32 : Nat) : Int))) / 2 ^ (n % 32) % 4294967296 : Nat) : Int) by omega, e]
    exact ih (i + 1) _ (by omega) (by simp [hl]) (ok_set ho _ (by omega) (by omega)) (zero_set (by omega) hz) (lay_digit (by omega) hz hv)

def leftR (a : Nat) (n : Int) : List Int × Int :=
  if n < 0 then ([], 1) else if a ≠ 0 ∧ (nlen a : Int) + n > 16384 then ([], 6) else (parts (a * 2 ^ n.toNat), 0)

theorem left_ev {a : List Int} (ha : Ok a) (la : a.length ≤ 100000) (n : Int) (h0 : -9223372036854775808 ≤ n) (h1 : n < 9223372036854775808) :
    Ev (fun k => nat_Nat_Left.f k a n) (leftR (nv a) n) := by
  unfold nat_Nat_Left.f leftR
  refine Ev.bind (len_ev ha (by omega)) ?_
  have hb := nlen_nv ha
  have hz := nlen_eq_zero (n := nv a)
  by_cases hn : n < 0
  · rw [if_pos hn]; exact Ev.pos hn (Ev.done _)
  · rw [if_neg hn]
    refine Ev.neg hn ?_
    have j0 : ∀ b : Bool, (b = true ↔ nv a ≠ 0 ∧ (nlen (nv a) : Int) + n > 16384) → Ev (fun k => nat_Nat_Left.j0 k a n (nlen (nv a) : Int) b) (if nv a ≠ 0 ∧ (nlen (nv a) : Int) + n > 16384 then (([] : List Int), (6 : Int)) else (parts (nv a * 2 ^ n.toNat), 0)) := by
      intro b hb2
      refine Ev.succ ?_
      simp only [nat_Nat_Left.j0]
      by_cases h : nv a ≠ 0 ∧ (nlen (nv a) : Int) + n > 16384
      · rw [if_pos h]; exact Ev.pos (hb2.2 h) (Ev.done _)
      · rw [if_neg h]
        refine Ev.neg (fun e => h (hb2.1 e)) ?_
        by_cases h2 : nv a = 0
        · rw [h2, nlen_zero, Nat.zero_mul, parts_zero]
          exact Ev.pos rfl (Ev.done _)
        · obtain ⟨m, rfl⟩ : ∃ m : Nat, n = m := ⟨n.toNat, by omega⟩
          rw [show (nlen (nv a) : Int) + (m : Int) = ((nlen (nv a) + m : Nat) : Int) by omega, w64 (x := ((nlen (nv a) + m : Nat) : Int)) (by omega) (by omega), tdiv32, w64 (x := (((nlen (nv a) + m) / 32 : Nat) : Int)) (by omega) (by omega), w64 (by omega) (by omega), show ((((nlen (nv a) + m) / 32 : Nat) : Int) + 1) = (((nlen (nv a) + m) / 32 + 1 : Nat) : Int) by omega]
          refine Ev.neg (by omega) (Ev.pos (by omega) (Ev.pos (by omega) (Ev.bind0 rfl ?_)))
          rw [Int.toNat_natCast, Int.toNat_natCast, List.length_replicate]
          refine left_loop ha la m (by omega) _ (by omega) ?_ _ 0 _ (Nat.zero_add _) (by simp) (ok_zeros _) (fun j _ => getD_zeros _ _) (by rw [nv_replicate]; simp [Nat.mod_one])
          have := lt_nlen (nv a * 2 ^ m)
          rw [nlen_mul_pow h2] at this
          rw [B_pow]
          exact Nat.lt_of_lt_of_le this (Nat.pow_le_pow_right (by omega) (by omega))
    by_cases h3 : (nlen (nv a) : Int) > 0
    · refine Ev.pos h3 ?_
      by_cases h4 : (nlen (nv a) : Int) > 16384
      · exact Ev.pos h4 (j0 true ⟨fun _ => ⟨by omega, by omega⟩, fun _ => rfl⟩)
      · rw [w64 (x := 16384 - (nlen (nv a) : Int)) (by omega) (by omega)]
        exact Ev.neg h4 (j0 _ ⟨fun h => by have := of_decide_eq_true h; exact ⟨by omega, by omega⟩, fun h => decide_eq_true (by omega)⟩)
    · exact Ev.neg h3 (j0 false ⟨fun h => (by cases h), fun h => by omega⟩)

def rightN (a : Nat) (n : Int) : Nat := a / 2 ^ n.toNat
def rightL (a : Nat) (n : Int) : Bool := decide (a % 2 ^ n.toNat ≠ 0)

theorem right_ev {a : List Int} (ha : Ok a) (la : a.length ≤ 100000) (n : Int) :
    Ev (fun k => nat_Nat_Right.f k a n) (parts (rightN (nv a) n), rightL (nv a) n) := by
  unfold nat_Nat_Right.f rightN rightL
  refine Ev.bind (len_ev ha (by omega)) ?_
  have hb := nlen_nv ha
  have hz := nlen_eq_zero (n := nv a)
  have hm : mn (mx n 0) (nlen (nv a) : Int) = ((min n.toNat (nlen (nv a)) : Nat) : Int) := by
    rw [show mx n 0 = ((n.toNat : Nat) : Int) by unfold mx; split <;> omega, mn_nat]
  rw [hm]
  have e1 : nv a / 2 ^ n.toNat = nv a / 2 ^ (min n.toNat (nlen (nv a))) := by
    by_cases h : n.toNat ≤ nlen (nv a)
    · rw [Nat.min_eq_left h]
    · rw [Nat.min_eq_right (by omega), Nat.div_eq_of_lt (lt_nlen _), Nat.div_eq_of_lt (nlen_le_iff.1 (by omega))]
  have j0 : ∀ b : Bool, Ev (fun k => nat_Nat_Right.j0 k a ((min n.toNat (nlen (nv a)) : Nat) : Int) b) (parts (nv a / 2 ^ n.toNat), b) := by
    intro b
    refine Ev.succ ?_
    simp only [nat_Nat_Right.j0]
    refine Ev.pos (by omega) (Ev.pos (by omega) (Ev.bind0 rfl ?_))
    rw [Int.toNat_natCast, List.length_replicate, e1]
    exact right_loop ha la _ (by omega) b a.length 0 _ (by omega) (by simp) (ok_zeros _) (fun j _ => getD_zeros _ _) (by rw [nv_replicate]; simp [Nat.mod_one])
  by_cases h : ((min n.toNat (nlen (nv a)) : Nat) : Int) > 0
  · refine Ev.pos h (Ev.bind (zeros_ev ha (by omega)) ?_)
    have h0 : nv a ≠ 0 := by omega
    have e2 : decide (((tz (nv a) : Nat) : Int) < ((min n.toNat (nlen (nv a)) : Nat) : Int)) = decide (nv a % 2 ^ n.toNat ≠ 0) := by
      have h1 := tz_lt_nlen h0
      have h2 := tz_mod h0 n.toNat
      apply decide_eq_decide.2
      omega
    rw [e2]
    exact j0 _
  · refine Ev.neg h ?_
    have e2 : decide (nv a % 2 ^ n.toNat ≠ 0) = false := by
      apply decide_eq_false
      by_cases h0 : nv a = 0
      · simp [h0]
      · rw [show n.toNat = 0 by omega]; simp [Nat.mod_one]
    rw [e2]
    exact j0 false

end Go.Proofs.Ytgccgmpfcnhbgaa.N
