/- Numbers as lists of 32-bit parts and as lists of bits: nv, parts, bv, bts, nlen and their laws, for all lists and all numbers. -/
namespace Go.Proofs.Ytgccgmpfcnhbgaa.Sk

/-! Whole numbers as lists of parts of 32 bts. -/
def nv : List Int → Nat
  | [] => 0
  | x :: xs => x.toNat + 4294967296 * nv xs

def Ok (xs : List Int) : Prop := ∀ x, x ∈ xs → 0 ≤ x ∧ x < 4294967296

theorem Ok.nil : Ok [] := fun _ h => by cases h
theorem Ok.cons {x : Int} {xs : List Int} (h0 : 0 ≤ x) (h1 : x < 4294967296) (h : Ok xs) : Ok (x :: xs) := by
  intro y hy
  rcases List.mem_cons.1 hy with rfl | hy
  · exact ⟨h0, h1⟩
  · exact h y hy
theorem Ok.head {x : Int} {xs : List Int} (h : Ok (x :: xs)) : 0 ≤ x ∧ x < 4294967296 := h x (by simp)
theorem Ok.tail {x : Int} {xs : List Int} (h : Ok (x :: xs)) : Ok xs := fun y hy => h y (by simp [hy])
theorem Ok.app {xs ys : List Int} (h : Ok xs) (k : Ok ys) : Ok (xs ++ ys) := by
  intro y hy
  rcases List.mem_append.1 hy with hy | hy
  · exact h y hy
  · exact k y hy
theorem Ok.take {xs : List Int} (h : Ok xs) (n : Nat) : Ok (xs.take n) := fun y hy => h y (List.mem_of_mem_take hy)
theorem Ok.drop {xs : List Int} (h : Ok xs) (n : Nat) : Ok (xs.drop n) := fun y hy => h y (List.mem_of_mem_drop hy)
theorem Ok.get {xs : List Int} (h : Ok xs) (i : Nat) : 0 ≤ xs.getD i 0 ∧ xs.getD i 0 < 4294967296 := by
  rw [List.getD_eq_getElem?_getD]
  by_cases hi : i < xs.length
  · rw [List.getElem?_eq_getElem hi]; exact h _ (List.getElem_mem hi)
  · rw [List.getElem?_eq_none (by omega)]; simp

def parts (n : Nat) : List Int := if n = 0 then [] else ((n % 4294967296 : Nat) : Int) :: parts (n / 4294967296)
termination_by n
decreasing_by omega

theorem parts_zero : parts 0 = [] := by rw [parts]; simp
theorem parts_pos {n : Nat} (h : n ≠ 0) : parts n = ((n % 4294967296 : Nat) : Int) :: parts (n / 4294967296) := by rw [parts, if_neg h]

theorem nv_parts (n : Nat) : nv (parts n) = n := by
  induction n using Nat.strongRecOn with
  | _ n ih =>
    by_cases h : n = 0
    · subst h; rw [parts_zero]; rfl
    · rw [parts_pos h, nv, ih _ (by omega)]; omega

theorem Ok_parts (n : Nat) : Ok (parts n) := by
  induction n using Nat.strongRecOn with
  | _ n ih =>
    by_cases h : n = 0
    · subst h; rw [parts_zero]; exact Ok.nil
    · rw [parts_pos h]; exact Ok.cons (by omega) (by omega) (ih _ (by omega))

/-- No part 0 at the end. -/
def Full (xs : List Int) : Prop := xs = [] ∨ xs.getD (xs.length - 1) 0 ≠ 0

theorem Full.tail {x : Int} {xs : List Int} (h : Full (x :: xs)) : Full xs := by
  cases xs with
  | nil => exact .inl rfl
  | cons y ys =>
    rcases h with h | h
    · cases h
    · refine .inr ?_
      simpa using h

theorem nv_pos_of_full {xs : List Int} (h : Ok xs) (hf : Full xs) (hne : xs ≠ []) : nv xs ≠ 0 := by
  induction xs with
  | nil => exact absurd rfl hne
  | cons x xs ih =>
    rw [nv]
    cases xs with
    | nil =>
      rcases hf with hf | hf
      · cases hf
      · have := h.head; simp at hf; simp only [nv]; omega
    | cons y ys => have := ih h.tail hf.tail (by simp); omega

theorem parts_nv {xs : List Int} (h : Ok xs) (hf : Full xs) : parts (nv xs) = xs := by
  induction xs with
  | nil => exact parts_zero
  | cons x xs ih =>
    rw [parts_pos (nv_pos_of_full h hf (by simp)), nv]
    have hx := h.head
    rw [show (x.toNat + 4294967296 * nv xs) / 4294967296 = nv xs from by omega, ih h.tail hf.tail]
    congr 1
    omega

theorem full_parts (n : Nat) : Full (parts n) := by
  induction n using Nat.strongRecOn with
  | _ n ih =>
    by_cases h : n = 0
    · subst h; rw [parts_zero]; exact .inl rfl
    · rw [parts_pos h]
      refine .inr ?_
      by_cases h2 : n / 4294967296 = 0
      · rw [h2, parts_zero]; simp; omega
      · rcases ih _ (show n / 4294967296 < n by omega) with h3 | h3
        · exact absurd (by rw [← nv_parts (n / 4294967296), h3]; rfl) h2
        · rw [parts_pos h2] at h3 ⊢; simpa using h3

theorem nv_append (xs ys : List Int) : nv (xs ++ ys) = nv xs + 4294967296 ^ xs.length * nv ys := by
  induction xs with
  | nil => simp [nv]
  | cons x xs ih => simp only [List.cons_append, nv, ih, List.length_cons, Nat.pow_succ]; grind

theorem nv_lt {xs : List Int} (h : Ok xs) : nv xs < 4294967296 ^ xs.length := by
  induction xs with
  | nil => simp [nv]
  | cons x xs ih =>
    have := ih h.tail; have := h.head
    simp only [nv, List.length_cons, Nat.pow_succ]; omega

theorem nv_replicate (n : Nat) : nv (List.replicate n 0) = 0 := by
  induction n with
  | zero => rfl
  | succ n ih => simp [List.replicate_succ, nv, ih]

/-- A part. -/
theorem nv_get {xs : List Int} (h : Ok xs) (i : Nat) : ((nv xs / 4294967296 ^ i % 4294967296 : Nat) : Int) = xs.getD i 0 := by
  induction xs generalizing i with
  | nil => simp [nv]
  | cons x xs ih =>
    have := h.head
    cases i with
    | zero => simp only [nv, List.getD_cons_zero, Nat.pow_zero, Nat.div_one]; omega
    | succ i =>
      rw [List.getD_cons_succ, ← ih h.tail i, nv, Nat.pow_succ, Nat.mul_comm (4294967296 ^ i), ← Nat.div_div_eq_div_mul]
      rw [show (x.toNat + 4294967296 * nv xs) / 4294967296 = nv xs from by omega]

/-- Two lists of the same parts, and nothing beyond. -/
theorem nv_ext {xs ys : List Int} (h : Ok xs) (k : Ok ys) (e : ∀ i, xs.getD i 0 = ys.getD i 0) : nv xs = nv ys := by
  induction xs generalizing ys with
  | nil =>
    clear h
    induction ys with
    | nil => rfl
    | cons y ys ih =>
      have h0 := e 0
      have := ih k.tail (fun i => by have := e (i + 1); simpa using this)
      simp at h0
      simp only [nv] at this ⊢; omega
  | cons x xs ih =>
    have h0 := e 0
    cases ys with
    | nil =>
      have := ih h.tail (ys := []) Ok.nil (fun i => by have := e (i + 1); simpa using this)
      simp at h0
      simp only [nv] at this ⊢; omega
    | cons y ys =>
      have := ih h.tail k.tail (fun i => by have := e (i + 1); simpa using this)
      simp at h0
      rw [nv, nv, this, h0]

theorem nv_take {xs : List Int} (h : Ok xs) (i : Nat) : nv (xs.take i) = nv xs % 4294967296 ^ i := by
  induction xs generalizing i with
  | nil => simp [nv]
  | cons x xs ih =>
    have := h.head
    cases i with
    | zero => simp [nv]; omega
    | succ i =>
      rw [List.take_succ_cons, nv, nv, ih h.tail, Nat.pow_succ]
      rw [Nat.mul_comm (4294967296 ^ i) 4294967296, Nat.mod_mul]
      rw [show (x.toNat + 4294967296 * nv xs) % 4294967296 = x.toNat from by omega, show (x.toNat + 4294967296 * nv xs) / 4294967296 = nv xs from by omega]

theorem nv_drop {xs : List Int} (h : Ok xs) (i : Nat) : nv (xs.drop i) = nv xs / 4294967296 ^ i := by
  induction xs generalizing i with
  | nil => simp [nv]
  | cons x xs ih =>
    have := h.head
    cases i with
    | zero => simp [nv]
    | succ i =>
      rw [List.drop_succ_cons, nv, ih h.tail, Nat.pow_succ, Nat.mul_comm (4294967296 ^ i), ← Nat.div_div_eq_div_mul]
      rw [show (x.toNat + 4294967296 * nv xs) / 4294967296 = nv xs from by omega]

/-- What is left when the parts 0 at the end are cut off. -/
theorem parts_take {xs : List Int} (h : Ok xs) (m : Nat) (hm : m ≤ xs.length) (hz : ∀ i, m ≤ i → xs.getD i 0 = 0) (hl : m = 0 ∨ xs.getD (m - 1) 0 ≠ 0) : xs.take m = parts (nv xs) := by
  have e : nv (xs.take m) = nv xs := by
    refine nv_ext (h.take m) h fun i => ?_
    by_cases hi : i < m
    · simp [List.getD_eq_getElem?_getD, hi]
    · rw [hz i (by omega)]; simp [List.getD_eq_getElem?_getD, List.getElem?_take, hi]
  rw [← e, parts_nv (h.take m)]
  have hlen : (xs.take m).length = m := by simp; omega
  rcases hl with rfl | hl
  · exact .inl (by simp)
  · by_cases h0 : m = 0
    · subst h0; exact .inl (by simp)
    · refine .inr ?_
      rw [hlen]
      simpa [List.getD_eq_getElem?_getD, List.getElem?_take, show m - 1 < m by omega] using hl

theorem parts_length_le {n k : Nat} (h : n < 4294967296 ^ k) : (parts n).length ≤ k := by
  induction k generalizing n with
  | zero => rw [Nat.pow_zero] at h; rw [show n = 0 by omega, parts_zero]; simp
  | succ k ih =>
    by_cases h0 : n = 0
    · subst h0; simp [parts_zero]
    · rw [parts_pos h0, List.length_cons]
      have := ih (n := n / 4294967296) (by rw [Nat.pow_succ] at h; omega)
      omega

theorem parts_length_pos {n k : Nat} (h : 4294967296 ^ k ≤ n) : k < (parts n).length := by
  by_cases hk : k < (parts n).length
  · exact hk
  · have := nv_lt (Ok_parts n)
    rw [nv_parts] at this
    have := Nat.pow_le_pow_right (n := 4294967296) (by omega) (show (parts n).length ≤ k by omega)
    omega

theorem parts_inj {m n : Nat} (h : parts m = parts n) : m = n := by rw [← nv_parts m, h, nv_parts]

/-! Whole numbers as lists of bts. -/
def bv : List Bool → Nat
  | [] => 0
  | b :: bs => b.toNat + 2 * bv bs

def bts (n : Nat) : List Bool := if n = 0 then [] else (n % 2 == 1) :: bts (n / 2)
termination_by n
decreasing_by omega

theorem bits_zero : bts 0 = [] := by rw [bts]; simp
theorem bits_pos {n : Nat} (h : n ≠ 0) : bts n = (n % 2 == 1) :: bts (n / 2) := by rw [bts, if_neg h]

theorem bv_bits (n : Nat) : bv (bts n) = n := by
  induction n using Nat.strongRecOn with
  | _ n ih =>
    by_cases h : n = 0
    · subst h; rw [bits_zero]; rfl
    · rw [bits_pos h, bv, ih _ (by omega)]
      rcases Nat.mod_two_eq_zero_or_one n with e | e <;> simp [e] <;> omega

theorem bv_append (xs ys : List Bool) : bv (xs ++ ys) = bv xs + 2 ^ xs.length * bv ys := by
  induction xs with
  | nil => simp [bv]
  | cons x xs ih => simp only [List.cons_append, bv, ih, List.length_cons, Nat.pow_succ]; grind

theorem bv_lt (xs : List Bool) : bv xs < 2 ^ xs.length := by
  induction xs with
  | nil => simp [bv]
  | cons x xs ih =>
    simp only [bv, List.length_cons, Nat.pow_succ]
    have : x.toNat ≤ 1 := by cases x <;> simp
    omega

theorem bv_replicate (n : Nat) : bv (List.replicate n false) = 0 := by
  induction n with
  | zero => rfl
  | succ n ih => simp [List.replicate_succ, bv, ih]

theorem bv_get (xs : List Bool) (i : Nat) : xs.getD i false = (bv xs).testBit i := by
  induction xs generalizing i with
  | nil => simp [bv]
  | cons x xs ih =>
    cases i with
    | zero => cases x <;> simp [bv, Nat.testBit_zero]
    | succ i =>
      rw [List.getD_cons_succ, ih, bv, Nat.testBit_succ]
      congr 1
      cases x <;> simp <;> omega

def BFull (xs : List Bool) : Prop := xs = [] ∨ xs.getD (xs.length - 1) false = true

theorem BFull.tail {x : Bool} {xs : List Bool} (h : BFull (x :: xs)) : BFull xs := by
  cases xs with
  | nil => exact .inl rfl
  | cons y ys =>
    rcases h with h | h
    · cases h
    · refine .inr ?_
      simpa using h

theorem bv_pos_of_full {xs : List Bool} (hf : BFull xs) (hne : xs ≠ []) : bv xs ≠ 0 := by
  induction xs with
  | nil => exact absurd rfl hne
  | cons x xs ih =>
    rw [bv]
    cases xs with
    | nil =>
      rcases hf with hf | hf
      · cases hf
      · simp at hf; subst hf; simp [bv]
    | cons y ys => have := ih hf.tail (by simp); omega

theorem bits_bv {xs : List Bool} (hf : BFull xs) : bts (bv xs) = xs := by
  induction xs with
  | nil => exact bits_zero
  | cons x xs ih =>
    rw [bits_pos (bv_pos_of_full hf (by simp)), bv]
    rw [show (x.toNat + 2 * bv xs) / 2 = bv xs from by cases x <;> simp <;> omega, ih hf.tail]
    congr 1
    cases x <;> simp <;> omega

theorem bfull_bits (n : Nat) : BFull (bts n) := by
  induction n using Nat.strongRecOn with
  | _ n ih =>
    by_cases h : n = 0
    · subst h; rw [bits_zero]; exact .inl rfl
    · rw [bits_pos h]
      refine .inr ?_
      by_cases h2 : n / 2 = 0
      · rw [h2, bits_zero]; simp; omega
      · rcases ih _ (show n / 2 < n by omega) with h3 | h3
        · exact absurd (by rw [← bv_bits (n / 2), h3]; rfl) h2
        · rw [bits_pos h2] at h3 ⊢; simpa using h3

theorem bits_inj {m n : Nat} (h : bts m = bts n) : m = n := by rw [← bv_bits m, h, bv_bits]

/-- How many bts. -/
def nlen (n : Nat) : Nat := (bts n).length

theorem nlen_zero : nlen 0 = 0 := by simp [nlen, bits_zero]
theorem nlen_pos {n : Nat} (h : n ≠ 0) : nlen n = nlen (n / 2) + 1 := by simp [nlen, bits_pos h]
theorem lt_nlen (n : Nat) : n < 2 ^ nlen n := by have := bv_lt (bts n); rwa [bv_bits] at this
theorem nlen_le {n k : Nat} (h : n < 2 ^ k) : nlen n ≤ k := by
  induction k generalizing n with
  | zero => rw [Nat.pow_zero] at h; rw [show n = 0 by omega, nlen_zero]; omega
  | succ k ih =>
    by_cases h0 : n = 0
    · subst h0; rw [nlen_zero]; omega
    · rw [nlen_pos h0]
      have := ih (n := n / 2) (by rw [Nat.pow_succ] at h; omega)
      omega
theorem nlen_gt {n k : Nat} (h : 2 ^ k ≤ n) : k < nlen n := by
  by_cases hk : k < nlen n
  · exact hk
  · have := lt_nlen n
    have := Nat.pow_le_pow_right (n := 2) (by omega) (show nlen n ≤ k by omega)
    omega
theorem nlen_le_iff {n k : Nat} : nlen n ≤ k ↔ n < 2 ^ k := by
  constructor
  · intro h; exact Nat.lt_of_lt_of_le (lt_nlen n) (Nat.pow_le_pow_right (by omega) h)
  · exact nlen_le
theorem nlen_gt_iff {n k : Nat} : k < nlen n ↔ 2 ^ k ≤ n := by
  have := nlen_le_iff (n := n) (k := k); omega
theorem nlen_eq_zero {n : Nat} : nlen n = 0 ↔ n = 0 := by
  constructor
  · intro h; have := lt_nlen n; rw [h] at this; omega
  · rintro rfl; exact nlen_zero
theorem nlen_low {n : Nat} (h : n ≠ 0) : 2 ^ (nlen n - 1) ≤ n := by
  have : nlen n ≠ 0 := fun e => h (nlen_eq_zero.1 e)
  exact nlen_gt_iff.1 (by omega)
theorem nlen_eq {n k : Nat} (h0 : 2 ^ k ≤ n) (h1 : n < 2 ^ (k + 1)) : nlen n = k + 1 := by
  have := nlen_gt h0; have := nlen_le h1; omega
theorem nlen_mono {m n : Nat} (h : m ≤ n) : nlen m ≤ nlen n := nlen_le (Nat.lt_of_le_of_lt h (lt_nlen n))
theorem nlen_mul_pow {n : Nat} (h : n ≠ 0) (k : Nat) : nlen (n * 2 ^ k) = nlen n + k := by
  have h1 := nlen_low h; have h2 := lt_nlen n
  have : nlen n ≠ 0 := fun e => h (nlen_eq_zero.1 e)
  have e : nlen n + k = (nlen n - 1 + k) + 1 := by omega
  rw [e]
  refine nlen_eq ?_ ?_
  · rw [Nat.pow_add]; exact Nat.mul_le_mul_right _ h1
  · rw [show nlen n - 1 + k + 1 = nlen n + k by omega, Nat.pow_add]; exact Nat.mul_lt_mul_of_pos_right h2 (Nat.two_pow_pos k)
theorem nlen_div_pow (n k : Nat) : nlen (n / 2 ^ k) = nlen n - k := by
  by_cases h : nlen n ≤ k
  · rw [Nat.div_eq_of_lt (nlen_le_iff.1 h), nlen_zero]; omega
  · have h0 : n ≠ 0 := by rintro rfl; rw [nlen_zero] at h; omega
    have e : nlen n - k = (nlen n - 1 - k) + 1 := by omega
    rw [e]
    refine nlen_eq ?_ ?_
    · rw [Nat.le_div_iff_mul_le (Nat.two_pow_pos k), ← Nat.pow_add, show nlen n - 1 - k + k = nlen n - 1 by omega]; exact nlen_low h0
    · rw [Nat.div_lt_iff_lt_mul (Nat.two_pow_pos k), ← Nat.pow_add, show nlen n - 1 - k + 1 + k = nlen n by omega]; exact lt_nlen n

theorem nlen_add_le (m n : Nat) : nlen (m + n) ≤ max (nlen m) (nlen n) + 1 := by
  refine nlen_le ?_
  have h1 := Nat.lt_of_lt_of_le (lt_nlen m) (Nat.pow_le_pow_right (n := 2) (by omega) (Nat.le_max_left (nlen m) (nlen n)))
  have h2 := Nat.lt_of_lt_of_le (lt_nlen n) (Nat.pow_le_pow_right (n := 2) (by omega) (Nat.le_max_right (nlen m) (nlen n)))
  rw [Nat.pow_succ]; omega
theorem nlen_mul_le (m n : Nat) : nlen (m * n) ≤ nlen m + nlen n := by
  refine nlen_le ?_
  rw [Nat.pow_add]
  exact Nat.mul_lt_mul'' (lt_nlen m) (lt_nlen n)

/-- Bits, all that are, without those 0 at the end. -/
theorem bits_take {xs : List Bool} (m : Nat) (hm : m ≤ xs.length) (hz : ∀ i, m ≤ i → xs.getD i false = false) (hl : m = 0 ∨ xs.getD (m - 1) false = true) : xs.take m = bts (bv xs) := by
  have e : bv (xs.take m) = bv xs := by
    refine Nat.eq_of_testBit_eq fun i => ?_
    rw [← bv_get, ← bv_get]
    by_cases hi : i < m
    · simp [List.getD_eq_getElem?_getD, hi]
    · rw [hz i (by omega)]; simp [List.getD_eq_getElem?_getD, List.getElem?_take, hi]
  rw [← e, bits_bv]
  have hlen : (xs.take m).length = m := by simp; omega
  rcases hl with rfl | hl
  · exact .inl (by simp)
  · by_cases h0 : m = 0
    · subst h0; exact .inl (by simp)
    · refine .inr ?_
      rw [hlen]
      simpa [List.getD_eq_getElem?_getD, List.getElem?_take, show m - 1 < m by omega] using hl

theorem bits_get (n i : Nat) : (bts n).getD i false = n.testBit i := by rw [bv_get, bv_bits]
theorem testBit_ge {n i : Nat} (h : nlen n ≤ i) : n.testBit i = false := Nat.testBit_lt_two_pow (nlen_le_iff.1 h)
theorem testBit_top {n : Nat} (h : n ≠ 0) : n.testBit (nlen n - 1) = true := by
  rw [← bits_get]
  rcases bfull_bits n with e | e
  · exact absurd (bits_inj (e.trans bits_zero.symm)) h
  · exact e

end Go.Proofs.Ytgccgmpfcnhbgaa.Sk
