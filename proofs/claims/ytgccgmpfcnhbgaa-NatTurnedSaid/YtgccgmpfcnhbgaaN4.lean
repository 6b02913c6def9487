/- What nat.Mul computes, for all lists of 32-bit parts of at most a hundred thousand parts. -/
import Derived.Test.YtgccgmpfcnhbgaaN3
import Derived.Laws.Bits64b
import Derived.Laws.BitsAllLaws
import Derived.Test.YtgccgmpfcnhbgaaPx3
import Derived.Test.YtgccgmpfcnhbgaaPx0
namespace Go.Proofs.Ytgccgmpfcnhbgaa.N
open Go.RowKit Go.Proofs.Ytgccgmpfcnhbgaa.P Go.Proofs.YtgccgmpfcnhbgaaW.PrintWords Go.Proofs.YtgccgmpfcnhbgaaW.PrintMore Sk

/-! ### two parts together -/
theorem both_eq {x y : Nat} (hx : x < 4294967296) (hy : y < 4294967296) :
    Go.bits .or .u64 (IntKind.u64.wrap (IntKind.u64.wrap (x : Int) * 4294967296)) (IntKind.u64.wrap (y : Int)) = ((x * 4294967296 + y : Nat) : Int) := by
  rw [u64w (x := (x : Int)) (by omega) (by omega), u64w (x := (y : Int)) (by omega) (by omega), u64w (by omega) (by omega), show (x : Int) * 4294967296 = ((x * 4294967296 : Nat) : Int) by omega,
    Go.bits_or_u64_nat _ _ (by omega) (by omega)]
  have := Nat.two_pow_add_eq_or_of_lt (i := 32) (b := y) (by omega) x
  rw [show 2 ^ 32 * x = x * 4294967296 by omega] at this
  rw [this]

/-! ### Word -/
theorem pt_nat' {l : List Int} (h : Ok l) (i : Nat) : ∃ x : Nat, pt l (i : Int) = (x : Int) ∧ x < 4294967296 ∧ x = nv l / 4294967296 ^ i % 4294967296 :=
  ⟨_, pt_nat h i, by omega, rfl⟩

theorem word_ev {l : List Int} (ho : Ok l) (hl : l.length ≤ 1000000) :
    Ev (fun k => nat_Nat_Word.f k l) (if nv l < 18446744073709551616 then (((nv l : Nat) : Int), 0) else (0, 6)) := by
  unfold nat_Nat_Word.f
  refine Ev.bind (trim_ev ho hl) ?_
  by_cases h : nv l < 18446744073709551616
  · rw [if_pos h]
    have := parts_length_le (n := nv l) (k := 2) (by omega)
    refine Ev.neg (by omega) (Ev.bind0 (part_eq _ _) (Ev.bind0 (part_eq _ _) ?_))
    obtain ⟨x, h1, h2, h3⟩ := pt_nat' ho 1
    obtain ⟨y, h4, h5, h6⟩ := pt_nat' ho 0
    rw [show (1 : Int) = ((1 : Nat) : Int) by rfl, show (0 : Int) = ((0 : Nat) : Int) by rfl, h1, h4, both_eq h2 h5, show x * 4294967296 + y = nv l by omega]
    exact Ev.done _
  · rw [if_neg h]
    have := parts_length_pos (n := nv l) (k := 2) (by omega)
    exact Ev.pos (by omega) (Ev.done _)

/-! ### Bit -/
theorem bit_eq {l : List Int} (ho : Ok l) (i : Int) (h1 : i < 9223372036854775808) :
    nat_Nat_Bit.f l i = some (if 0 ≤ i ∧ (nv l).testBit i.toNat = true then 1 else 0) := by
  unfold nat_Nat_Bit.f
  by_cases h : i < 0
  · rw [if_pos h, if_neg (by omega)]
  · rw [if_neg h]
    obtain ⟨n, rfl⟩ : ∃ n : Nat, i = n := ⟨i.toNat, by omega⟩
    rw [show Int.tdiv (n : Int) 32 = ((n / 32 : Nat) : Int) from rfl, show Int.tmod (n : Int) 32 = ((n % 32 : Nat) : Int) from rfl, w64 (x := ((n / 32 : Nat) : Int)) (by omega) (by omega), part_eq]
    obtain ⟨x, h2, h3, h4⟩ := pt_nat' ho (n / 32)
    rw [h2]
    simp only [Option.bind_some]
    rw [if_pos (by omega)]
    have e1 : shr .u32 (x : Int) ((n % 32 : Nat) : Int) = ((x / 2 ^ (n % 32) : Nat) : Int) := by
      unfold shr
      rw [Int.toNat_natCast, Nat.min_eq_left (show n % 32 ≤ IntKind.u32.bits by simp [IntKind.bits]; omega)]
      simp
    have hq : x / 2 ^ (n % 32) < 4294967296 := Nat.lt_of_le_of_lt (Nat.div_le_self _ _) h3
    rw [e1, show (1 : Int) = ((1 : Nat) : Int) from rfl, Go.u32_and_nat _ _ hq (by omega), Nat.and_one_is_mod, w64 (by omega) (by omega), Int.toNat_natCast]
    have e2 : (nv l).testBit n = decide (x / 2 ^ (n % 32) % 2 = 1) := by
      rw [h4, ← Nat.testBit_eq_decide_div_mod_eq, show (4294967296 : Nat) = 2 ^ 32 by rfl, Nat.testBit_mod_two_pow, ← Nat.pow_mul, Nat.testBit_div_two_pow]
      rw [show n % 32 + 32 * (n / 32) = n by omega]
      simp; omega
    rw [e2]
    rcases Nat.mod_two_eq_zero_or_one (x / 2 ^ (n % 32)) with h5 | h5
    · rw [h5, if_neg (by simp)]; rfl
    · rw [h5, if_pos ⟨by omega, by simp⟩]

/-! ### Zeros -/
def tz (n : Nat) : Nat := if n = 0 then 0 else if n % 2 = 1 then 0 else tz (n / 2) + 1
termination_by n
decreasing_by omega
theorem tz_zero : tz 0 = 0 := by rw [tz]; simp
theorem tz_odd {n : Nat} (h : n % 2 = 1) : tz n = 0 := by rw [tz, if_neg (by omega), if_pos h]
theorem tz_even {n : Nat} (h : n % 2 = 0) (h0 : n ≠ 0) : tz n = tz (n / 2) + 1 := by rw [tz, if_neg h0, if_neg (by omega)]
theorem tz_two_mul {n : Nat} (h : n ≠ 0) : tz (2 * n) = tz n + 1 := by rw [tz_even (by omega) (by omega)]; congr 2; omega
theorem tz_pow_mul {n : Nat} (h : n ≠ 0) (k : Nat) : tz (2 ^ k * n) = k + tz n := by
  induction k with
  | zero => simp
  | succ k ih =>
    rw [Nat.pow_succ, Nat.mul_comm (2 ^ k) 2, Nat.mul_assoc, tz_two_mul (Nat.mul_ne_zero (by have := Nat.two_pow_pos k; omega) h), ih]; omega
theorem tz_split {n : Nat} (h : n ≠ 0) : ∃ m, n = 2 ^ tz n * m ∧ m % 2 = 1 := by
  induction n using Nat.strongRecOn with
  | _ n ih =>
    by_cases h1 : n % 2 = 1
    · exact ⟨n, by rw [tz_odd h1]; simp, h1⟩
    · obtain ⟨m, e, hm⟩ := ih (n / 2) (by omega) (by omega)
      refine ⟨m, ?_, hm⟩
      rw [tz_even (by omega) h, Nat.pow_succ, Nat.mul_comm (2 ^ tz (n / 2)) 2, Nat.mul_assoc, ← e]; omega
theorem tz_lt_nlen {n : Nat} (h : n ≠ 0) : tz n < nlen n := by
  obtain ⟨m, e, hm⟩ := tz_split h
  refine nlen_gt (Nat.le_trans ?_ (Nat.le_of_eq e.symm))
  exact Nat.le_mul_of_pos_right _ (by omega)
theorem tz_le (n : Nat) : tz n ≤ nlen n := by
  by_cases h : n = 0
  · subst h; rw [tz_zero]; omega
  · have := tz_lt_nlen h; omega
theorem tz_mod {n : Nat} (h : n ≠ 0) (k : Nat) : n % 2 ^ k = 0 ↔ k ≤ tz n := by
  obtain ⟨m, e, hm⟩ := tz_split h
  constructor
  · intro h0
    by_cases hk : k ≤ tz n
    · exact hk
    · exfalso
      obtain ⟨q, hq⟩ := Nat.dvd_of_mod_eq_zero h0
      have e2 : 2 ^ tz n * m = 2 ^ tz n * (2 * (2 ^ (k - tz n - 1) * q)) := by
        rw [← e]
        have : 2 ^ k = 2 ^ tz n * (2 * 2 ^ (k - tz n - 1)) := by rw [← Nat.pow_succ', ← Nat.pow_add]; congr 1; omega
        conv => lhs; rw [hq, this]
        rw [Nat.mul_assoc, Nat.mul_assoc]
      have := Nat.eq_of_mul_eq_mul_left (Nat.two_pow_pos _) e2
      omega
  · intro hk
    rw [e]
    have : 2 ^ tz n = 2 ^ k * 2 ^ (tz n - k) := by rw [← Nat.pow_add]; congr 1; omega
    rw [this, Nat.mul_assoc, Nat.mul_mod_right]

theorem index_loop (l : List Int) (hl : l.length ≤ 1000000) (d : Nat) : ∀ i : Nat, i + d = l.length → (∀ j, j < i → l.getD j 0 = 0) →
    ∃ r : Int, Ev (fun k => slices_IndexNz.l0 k l (i : Int)) r ∧ ((r = -1 ∧ ∀ j, l.getD j 0 = 0) ∨ ∃ j : Nat, r = (j : Int) ∧ j < l.length ∧ l.getD j 0 ≠ 0 ∧ ∀ m, m < j → l.getD m 0 = 0) := by
  induction d with
  | zero =>
    intro i hi hz
    refine ⟨-1, Ev.succ ?_, .inl ⟨rfl, fun j => ?_⟩⟩
    · simp only [slices_IndexNz.l0]
      exact Ev.neg (by omega) (Ev.done _)
    · by_cases h : j < i
      · exact hz j h
      · exact getD_ge (by omega)
  | succ d ih =>
    intro i hi hz
    by_cases h0 : l.getD i 0 = 0
    · obtain ⟨r, h1, h2⟩ := ih (i + 1) (by omega) (fun j hj => by
        by_cases e : j = i
        · subst e; exact h0
        · exact hz j (by omega))
      refine ⟨r, Ev.succ ?_, h2⟩
      simp only [slices_IndexNz.l0]
      rw [rd_nat, w64 (by omega) (by omega)]
      exact Ev.pos (by omega) (Ev.pos (by omega) (Ev.pos h0 h1))
    · refine ⟨i, Ev.succ ?_, .inr ⟨i, rfl, by omega, h0, hz⟩⟩
      simp only [slices_IndexNz.l0]
      rw [rd_nat]
      exact Ev.pos (by omega) (Ev.pos (by omega) (Ev.neg h0 (Ev.done _)))

theorem zeros_loop (x : Nat) (h : x < 4294967296) (h0 : x ≠ 0) : ∀ n : Nat, n + tz x ≤ 100000000 → Ev (fun k => nat_Nat_Zeros.l0 k (n : Int) (x : Int)) ((n + tz x : Nat) : Int) := by
  induction x using Nat.strongRecOn with
  | _ x ih =>
    intro n hn
    refine Ev.succ ?_
    simp only [nat_Nat_Zeros.l0]
    rw [show (1 : Int) = ((1 : Nat) : Int) from rfl, Go.u32_and_nat _ _ h (by omega), Nat.and_one_is_mod]
    by_cases h1 : x % 2 = 1
    · rw [tz_odd h1]
      exact Ev.neg (by omega) (Ev.done _)
    · have e := tz_even (n := x) (by omega) h0
      refine Ev.pos (by omega) ?_
      rw [w64 (by omega) (by omega), show (x : Int) / 2 = ((x / 2 : Nat) : Int) by omega, show (n : Int) + ((1 : Nat) : Int) = ((n + 1 : Nat) : Int) by omega, e, show n + (tz (x / 2) + 1) = n + 1 + tz (x / 2) by omega]
      exact ih _ (by omega) (by omega) (by omega) _ (by omega)

theorem tz_low {x r : Nat} (h : x < 4294967296) (h0 : x ≠ 0) : tz (x + 4294967296 * r) = tz x := by
  have h1 : tz x < 32 := Nat.lt_of_lt_of_le (tz_lt_nlen h0) (nlen_le (by omega))
  obtain ⟨m, e, hm⟩ := tz_split h0
  have e2 : x + 4294967296 * r = 2 ^ tz x * (m + 2 ^ (32 - tz x) * r) := by
    rw [Nat.mul_add, ← e, ← Nat.mul_assoc, ← Nat.pow_add, show tz x + (32 - tz x) = 32 by omega]
  have e3 : 2 ^ (32 - tz x) * r = 2 * (2 ^ (31 - tz x) * r) := by rw [show 32 - tz x = (31 - tz x) + 1 by omega, Nat.pow_succ', Nat.mul_assoc]
  rw [e2, tz_pow_mul (by omega), tz_odd (n := m + 2 ^ (32 - tz x) * r) (by omega), Nat.add_zero]

theorem zeros_ev {l : List Int} (ho : Ok l) (hl : l.length ≤ 1000000) : Ev (fun k => nat_Nat_Zeros.f k l) ((tz (nv l) : Nat) : Int) := by
  unfold nat_Nat_Zeros.f
  obtain ⟨r, h1, h2⟩ := index_loop l hl l.length 0 (by omega) (fun j hj => by omega)
  refine Ev.bind (a := r) h1 ?_
  rcases h2 with ⟨rfl, h2⟩ | ⟨j, rfl, hj, h3, h4⟩
  · refine Ev.pos (by omega) ?_
    have : nv l = 0 := by rw [nv_ext ho Ok.nil (fun i => by rw [h2 i]; rfl)]; rfl
    rw [this, tz_zero]; exact Ev.done _
  · refine Ev.neg (by omega) (Ev.pos (by omega) (Ev.pos (by omega) ?_))
    have g := ho.get j
    obtain ⟨x, hx⟩ : ∃ x : Nat, l.getD j 0 = (x : Int) := ⟨(l.getD j 0).toNat, by omega⟩
    have hx0 : x ≠ 0 := by omega
    have h32 : tz x < 32 := Nat.lt_of_lt_of_le (tz_lt_nlen hx0) (nlen_le (by omega))
    have e1 : nv (l.take j) = 0 := by
      rw [nv_ext (ho.take j) Ok.nil (fun i => ?_)]
      · rfl
      · by_cases hi : i < j
        · have := h4 i hi
          simpa [List.getD_eq_getElem?_getD, hi] using this
        · simp [List.getD_eq_getElem?_getD, List.getElem?_take, hi]
    have e2 : nv l = 4294967296 ^ j * (x + 4294967296 * (nv l / 4294967296 ^ (j + 1))) := by
      have m := mod_step (nv l) j
      have d1 := Nat.div_add_mod (nv l) (4294967296 ^ j)
      have st := step_div (nv l) j
      have gx := nv_get ho j
      rw [nv_take ho] at e1
      rw [hx] at gx
      rw [e1, Nat.add_zero] at d1
      have : nv l / 4294967296 ^ j % 4294967296 = x := by omega
      rw [this] at st
      rw [← st]; exact d1.symm
    rw [rd_nat, hx, w64 (by omega) (by omega), show (32 : Int) * (j : Int) = ((32 * j : Nat) : Int) by omega]
    have e3 : tz (nv l) = 32 * j + tz x := by
      conv => lhs; rw [e2, B_pow]
      rw [tz_pow_mul (by omega), tz_low (by omega) hx0]
    rw [e3]
    exact zeros_loop x (by omega) hx0 _ (by omega)

end Go.Proofs.Ytgccgmpfcnhbgaa.N
