/- Numbers as lists of 32-bit parts and of bits, and what the functions of nat and of its reference compute on them, within the lengths that each theorem names. -/
import Derived.IntWalk
import Derived.Laws.Bits64b
import Derived.Laws.BitsAllLaws
import Derived.Test.YtlaffgojgfdlnaaPx1
import Derived.Test.YtlaffgojgfdlnaaPx2
import Derived.Test.YtlaffgojgfdlnaaPx3
import Derived.Test.YtlaffgojgfdlnaaPx4
import Derived.Test.YtlaffgojgfdlnaaPx0
namespace Go.Proofs.Ytlaffgojgfdlnaa.Sk

/-! Whole numbers as lists of parts of 32 bts. -/
def nv : List Int → Nat
  | [] => 0
  | x :: xs => x.toNat + 4294967296 * nv xs

def Ok (xs : List Int) : Prop := ∀ x, x ∈ xs → 0 ≤ x ∧ x < 4294967296

theorem Ok.nil : Ok [] := fun _ h => by cases h
theorem Ok.cons {x : Int} {xs : List Int} (h0 : 0 ≤ x) (h1 : x < 4294967296) (h : Ok xs) : Ok (x :: xs) := by
  intro y hy
  rcases List.mem_cons.1 hy with rfl | hy
  · exact ⟨h0, h1⟩
  · exact h y hy
theorem Ok.head {x : Int} {xs : List Int} (h : Ok (x :: xs)) : 0 ≤ x ∧ x < 4294967296 := h x (by simp)
theorem Ok.tail {x : Int} {xs : List Int} (h : Ok (x :: xs)) : Ok xs := fun y hy => h y (by simp [hy])
theorem Ok.app {xs ys : List Int} (h : Ok xs) (k : Ok ys) : Ok (xs ++ ys) := by
  intro y hy
  rcases List.mem_append.1 hy with hy | hy
  · exact h y hy
  · exact k y hy
theorem Ok.take {xs : List Int} (h : Ok xs) (n : Nat) : Ok (xs.take n) := fun y hy => h y (List.mem_of_mem_take hy)
theorem Ok.drop {xs : List Int} (h : Ok xs) (n : Nat) : Ok (xs.drop n) := fun y hy => h y (List.mem_of_mem_drop hy)
theorem Ok.get {xs : List Int} (h : Ok xs) (i : Nat) : 0 ≤ xs.getD i 0 ∧ xs.getD i 0 < 4294967296 := by
  rw [List.getD_eq_getElem?_getD]
  by_cases hi : i < xs.length
  · rw [List.getElem?_eq_getElem hi]; exact h _ (List.getElem_mem hi)
  · rw [List.getElem?_eq_none (by omega)]; simp

def parts (n : Nat) : List Int := if n = 0 then [] else ((n % 4294967296 : Nat) : Int) :: parts (n / 4294967296)
termination_by n
decreasing_by omega

theorem parts_zero : parts 0 = [] := by rw [parts]; simp
theorem parts_pos {n : Nat} (h : n ≠ 0) : parts n = ((n % 4294967296 : Nat) : Int) :: parts (n / 4294967296) := by rw [parts, if_neg h]

theorem nv_parts (n : Nat) : nv (parts n) = n := by
  induction n using Nat.strongRecOn with
  | _ n ih =>
    by_cases h : n = 0
    · subst h; rw [parts_zero]; rfl
    · rw [parts_pos h, nv, ih _ (by omega)]; omega

theorem Ok_parts (n : Nat) : Ok (parts n) := by
  induction n using Nat.strongRecOn with
  | _ n ih =>
    by_cases h : n = 0
    · subst h; rw [parts_zero]; exact Ok.nil
    · rw [parts_pos h]; exact Ok.cons (by omega) (by omega) (ih _ (by omega))

/-- No part 0 at the end. -/
def Full (xs : List Int) : Prop := xs = [] ∨ xs.getD (xs.length - 1) 0 ≠ 0

theorem Full.tail {x : Int} {xs : List Int} (h : Full (x :: xs)) : Full xs := by
  cases xs with
  | nil => exact .inl rfl
  | cons y ys =>
    rcases h with h | h
    · cases h
    · refine .inr ?_
      simpa using h

theorem nv_pos_of_full {xs : List Int} (h : Ok xs) (hf : Full xs) (hne : xs ≠ []) : nv xs ≠ 0 := by
  induction xs with
  | nil => exact absurd rfl hne
  | cons x xs ih =>
    rw [nv]
    cases xs with
    | nil =>
      rcases hf with hf | hf
      · cases hf
      · have := h.head; simp at hf; simp only [nv]; omega
    | cons y ys => have := ih h.tail hf.tail (by simp); omega

theorem parts_nv {xs : List Int} (h : Ok xs) (hf : Full xs) : parts (nv xs) = xs := by
  induction xs with
  | nil => exact parts_zero
  | cons x xs ih =>
    rw [parts_pos (nv_pos_of_full h hf (by simp)), nv]
    have hx := h.head
    rw [show (x.toNat + 4294967296 * nv xs) / 4294967296 = nv xs from by omega, ih h.tail hf.tail]
    congr 1
    omega

theorem full_parts (n : Nat) : Full (parts n) := by
  induction n using Nat.strongRecOn with
  | _ n ih =>
    by_cases h : n = 0
    · subst h; rw [parts_zero]; exact .inl rfl
    · rw [parts_pos h]
      refine .inr ?_
      by_cases h2 : n / 4294967296 = 0
      · rw [h2, parts_zero]; simp; omega
      · rcases ih _ (show n / 4294967296 < n by omega) with h3 | h3
        · exact absurd (by rw [← nv_parts (n / 4294967296), h3]; rfl) h2
        · rw [parts_pos h2] at h3 ⊢; simpa using h3

theorem nv_lt {xs : List Int} (h : Ok xs) : nv xs < 4294967296 ^ xs.length := by
  induction xs with
  | nil => simp [nv]
  | cons x xs ih =>
    have := ih h.tail; have := h.head
    simp only [nv, List.length_cons, Nat.pow_succ]; omega

theorem nv_replicate (n : Nat) : nv (List.replicate n 0) = 0 := by
  induction n with
  | zero => rfl
  | succ n ih => simp [List.replicate_succ, nv, ih]

/-- A part. -/
theorem nv_get {xs : List Int} (h : Ok xs) (i : Nat) : ((nv xs / 4294967296 ^ i % 4294967296 : Nat) : Int) = xs.getD i 0 := by
  induction xs generalizing i with
  | nil => simp [nv]
  | cons x xs ih =>
    have := h.head
    cases i with
    | zero => simp only [nv, List.getD_cons_zero, Nat.pow_zero, Nat.div_one]; omega
    | succ i =>
      rw [List.getD_cons_succ, ← ih h.tail i, nv, Nat.pow_succ, Nat.mul_comm (4294967296 ^ i), ← Nat.div_div_eq_div_mul]
      rw [show (x.toNat + 4294967296 * nv xs) / 4294967296 = nv xs from by omega]

/-- Two lists of the same parts, and nothing beyond. -/
theorem nv_ext {xs ys : List Int} (h : Ok xs) (k : Ok ys) (e : ∀ i, xs.getD i 0 = ys.getD i 0) : nv xs = nv ys := by
  induction xs generalizing ys with
  | nil =>
    clear h
    induction ys with
    | nil => rfl
    | cons y ys ih =>
      have h0 := e 0
      have := ih k.tail (fun i => by have := e (i + 1); simpa using this)
      simp at h0
      simp only [nv] at this ⊢; omega
  | cons x xs ih =>
    have h0 := e 0
    cases ys with
    | nil =>
      have := ih h.tail (ys := []) Ok.nil (fun i => by have := e (i + 1); simpa using this)
      simp at h0
      simp only [nv] at this ⊢; omega
    | cons y ys =>
      have := ih h.tail k.tail (fun i => by have := e (i + 1); simpa using this)
      simp at h0
      rw [nv, nv, this, h0]

theorem nv_take {xs : List Int} (h : Ok xs) (i : Nat) : nv (xs.take i) = nv xs % 4294967296 ^ i := by
  induction xs generalizing i with
  | nil => simp [nv]
  | cons x xs ih =>
    have := h.head
    cases i with
    | zero => simp [nv]; omega
    | succ i =>
      rw [List.take_succ_cons, nv, nv, ih h.tail, Nat.pow_succ]
      rw [Nat.mul_comm (4294967296 ^ i) 4294967296, Nat.mod_mul]
      rw [show (x.toNat + 4294967296 * nv xs) % 4294967296 = x.toNat from by omega, show (x.toNat + 4294967296 * nv xs) / 4294967296 = nv xs from by omega]

/-- What is left when the parts 0 at the end are cut off. -/
theorem parts_take {xs : List Int} (h : Ok xs) (m : Nat) (hm : m ≤ xs.length) (hz : ∀ i, m ≤ i → xs.getD i 0 = 0) (hl : m = 0 ∨ xs.getD (m - 1) 0 ≠ 0) : xs.take m = parts (nv xs) := by
  have e : nv (xs.take m) = nv xs := by
    refine nv_ext (h.take m) h fun i => ?_
    by_cases hi : i < m
    · simp [List.getD_eq_getElem?_getD, hi]
    · rw [hz i (by omega)]; simp [List.getD_eq_getElem?_getD, List.getElem?_take, hi]
  rw [← e, parts_nv (h.take m)]
  have hlen : (xs.take m).length = m := by simp; omega
  rcases hl with rfl | hl
  · exact .inl (by simp)
  · by_cases h0 : m = 0
    · subst h0; exact .inl (by simp)
    · refine .inr ?_
      rw [hlen]
      simpa [List.getD_eq_getElem?_getD, List.getElem?_take, show m - 1 < m by omega] using hl

theorem parts_length_le {n k : Nat} (h : n < 4294967296 ^ k) : (parts n).length ≤ k := by
  induction k generalizing n with
  | zero => rw [Nat.pow_zero] at h; rw [show n = 0 by omega, parts_zero]; simp
  | succ k ih =>
    by_cases h0 : n = 0
    · subst h0; simp [parts_zero]
    · rw [parts_pos h0, List.length_cons]
      have := ih (n := n / 4294967296) (by rw [Nat.pow_succ] at h; omega)
      omega

theorem parts_length_pos {n k : Nat} (h : 4294967296 ^ k ≤ n) : k < (parts n).length := by
  by_cases hk : k < (parts n).length
  · exact hk
  · have := nv_lt (Ok_parts n)
    rw [nv_parts] at this
    have := Nat.pow_le_pow_right (n := 4294967296) (by omega) (show (parts n).length ≤ k by omega)
    omega

/-! Whole numbers as lists of bts. -/
def bv : List Bool → Nat
  | [] => 0
  | b :: bs => b.toNat + 2 * bv bs

def bts (n : Nat) : List Bool := if n = 0 then [] else (n % 2 == 1) :: bts (n / 2)
termination_by n
decreasing_by omega

theorem bits_zero : bts 0 = [] := by rw [bts]; simp
theorem bits_pos {n : Nat} (h : n ≠ 0) : bts n = (n % 2 == 1) :: bts (n / 2) := by rw [bts, if_neg h]

theorem bv_bits (n : Nat) : bv (bts n) = n := by
  induction n using Nat.strongRecOn with
  | _ n ih =>
    by_cases h : n = 0
    · subst h; rw [bits_zero]; rfl
    · rw [bits_pos h, bv, ih _ (by omega)]
      rcases Nat.mod_two_eq_zero_or_one n with e | e <;> simp [e] <;> omega

theorem bv_lt (xs : List Bool) : bv xs < 2 ^ xs.length := by
  induction xs with
  | nil => simp [bv]
  | cons x xs ih =>
    simp only [bv, List.length_cons, Nat.pow_succ]
    have : x.toNat ≤ 1 := by cases x <;> simp
    omega

def BFull (xs : List Bool) : Prop := xs = [] ∨ xs.getD (xs.length - 1) false = true

theorem BFull.tail {x : Bool} {xs : List Bool} (h : BFull (x :: xs)) : BFull xs := by
  cases xs with
  | nil => exact .inl rfl
  | cons y ys =>
    rcases h with h | h
    · cases h
    · refine .inr ?_
      simpa using h

/-- How many bts. -/
def nlen (n : Nat) : Nat := (bts n).length

theorem nlen_zero : nlen 0 = 0 := by simp [nlen, bits_zero]
theorem nlen_pos {n : Nat} (h : n ≠ 0) : nlen n = nlen (n / 2) + 1 := by simp [nlen, bits_pos h]
theorem lt_nlen (n : Nat) : n < 2 ^ nlen n := by have := bv_lt (bts n); rwa [bv_bits] at this
theorem nlen_le {n k : Nat} (h : n < 2 ^ k) : nlen n ≤ k := by
  induction k generalizing n with
  | zero => rw [Nat.pow_zero] at h; rw [show n = 0 by omega, nlen_zero]; omega
  | succ k ih =>
    by_cases h0 : n = 0
    · subst h0; rw [nlen_zero]; omega
    · rw [nlen_pos h0]
      have := ih (n := n / 2) (by rw [Nat.pow_succ] at h; omega)
      omega
theorem nlen_gt {n k : Nat} (h : 2 ^ k ≤ n) : k < nlen n := by
  by_cases hk : k < nlen n
  · exact hk
  · have := lt_nlen n
    have := Nat.pow_le_pow_right (n := 2) (by omega) (show nlen n ≤ k by omega)
    omega
theorem nlen_le_iff {n k : Nat} : nlen n ≤ k ↔ n < 2 ^ k := by
  constructor
  · intro h; exact Nat.lt_of_lt_of_le (lt_nlen n) (Nat.pow_le_pow_right (by omega) h)
  · exact nlen_le
theorem nlen_gt_iff {n k : Nat} : k < nlen n ↔ 2 ^ k ≤ n := by
  have := nlen_le_iff (n := n) (k := k); omega
theorem nlen_eq_zero {n : Nat} : nlen n = 0 ↔ n = 0 := by
  constructor
  · intro h; have := lt_nlen n; rw [h] at this; omega
  · rintro rfl; exact nlen_zero
theorem nlen_low {n : Nat} (h : n ≠ 0) : 2 ^ (nlen n - 1) ≤ n := by
  have : nlen n ≠ 0 := fun e => h (nlen_eq_zero.1 e)
  exact nlen_gt_iff.1 (by omega)
theorem nlen_eq {n k : Nat} (h0 : 2 ^ k ≤ n) (h1 : n < 2 ^ (k + 1)) : nlen n = k + 1 := by
  have := nlen_gt h0; have := nlen_le h1; omega
theorem nlen_mono {m n : Nat} (h : m ≤ n) : nlen m ≤ nlen n := nlen_le (Nat.lt_of_le_of_lt h (lt_nlen n))
theorem nlen_mul_pow {n : Nat} (h : n ≠ 0) (k : Nat) : nlen (n * 2 ^ k) = nlen n + k := by
  have h1 := nlen_low h; have h2 := lt_nlen n
  have : nlen n ≠ 0 := fun e => h (nlen_eq_zero.1 e)
  have e : nlen n + k = (nlen n - 1 + k) + 1 := by omega
  rw [e]
  refine nlen_eq ?_ ?_
  · rw [Nat.pow_add]; exact Nat.mul_le_mul_right _ h1
  · rw [show nlen n - 1 + k + 1 = nlen n + k by omega, Nat.pow_add]; exact Nat.mul_lt_mul_of_pos_right h2 (Nat.two_pow_pos k)
theorem nlen_div_pow (n k : Nat) : nlen (n / 2 ^ k) = nlen n - k := by
  by_cases h : nlen n ≤ k
  · rw [Nat.div_eq_of_lt (nlen_le_iff.1 h), nlen_zero]; omega
  · have h0 : n ≠ 0 := by rintro rfl; rw [nlen_zero] at h; omega
    have e : nlen n - k = (nlen n - 1 - k) + 1 := by omega
    rw [e]
    refine nlen_eq ?_ ?_
    · rw [Nat.le_div_iff_mul_le (Nat.two_pow_pos k), ← Nat.pow_add, show nlen n - 1 - k + k = nlen n - 1 by omega]; exact nlen_low h0
    · rw [Nat.div_lt_iff_lt_mul (Nat.two_pow_pos k), ← Nat.pow_add, show nlen n - 1 - k + 1 + k = nlen n by omega]; exact lt_nlen n

theorem nlen_add_le (m n : Nat) : nlen (m + n) ≤ max (nlen m) (nlen n) + 1 := by
  refine nlen_le ?_
  have h1 := Nat.lt_of_lt_of_le (lt_nlen m) (Nat.pow_le_pow_right (n := 2) (by omega) (Nat.le_max_left (nlen m) (nlen n)))
  have h2 := Nat.lt_of_lt_of_le (lt_nlen n) (Nat.pow_le_pow_right (n := 2) (by omega) (Nat.le_max_right (nlen m) (nlen n)))
  rw [Nat.pow_succ]; omega
theorem nlen_mul_le (m n : Nat) : nlen (m * n) ≤ nlen m + nlen n := by
  refine nlen_le ?_
  rw [Nat.pow_add]
  exact Nat.mul_lt_mul'' (lt_nlen m) (lt_nlen n)

end Go.Proofs.Ytlaffgojgfdlnaa.Sk
namespace Go.Proofs.Ytlaffgojgfdlnaa.N
open Go.RowKit Go.Proofs.Ytlaffgojgfdlnaa.P Go.Proofs.YtlaffgojgfdlnaaW.PrintWords Go.Proofs.YtlaffgojgfdlnaaW.PrintMore Sk

/-- With enough rounds g tells r. -/
def Ev {α : Type} (g : Nat → Option α) (r : α) : Prop := ∃ K, ∀ k, K ≤ k → g k = some r
namespace Ev
variable {α β : Type}
theorem done (r : α) : Ev (fun _ => some r) r := ⟨0, fun _ _ => rfl⟩
theorem bind {g : Nat → Option α} {F : Nat → α → Option β} {a : α} {r : β} (h : Ev g a) (k : Ev (fun n => F n a) r) : Ev (fun n => (g n).bind (F n)) r := by
  obtain ⟨K, hK⟩ := h
  obtain ⟨L, hL⟩ := k
  refine ⟨max K L, fun n hn => ?_⟩
  show (g n).bind (F n) = some r
  rw [hK n (by omega)]
  exact hL n (by omega)
theorem bind0 {g : Option α} {F : Nat → α → Option β} {a : α} {r : β} (h : g = some a) (k : Ev (fun n => F n a) r) : Ev (fun n => g.bind (F n)) r := by
  subst h; exact k
theorem succ {g : Nat → Option α} {r : α} (h : Ev (fun n => g (n + 1)) r) : Ev g r := by
  obtain ⟨K, hK⟩ := h
  refine ⟨K + 1, fun n hn => ?_⟩
  obtain ⟨m, rfl⟩ : ∃ m, n = m + 1 := ⟨n - 1, by omega⟩
  exact hK m (by omega)
theorem ex {g : Nat → Option α} {r : α} (h : Ev g r) : ∃ k, g k = some r := by
  obtain ⟨K, hK⟩ := h
  exact ⟨K, hK K (Nat.le_refl _)⟩
theorem pos {c : Prop} [Decidable c] {g g' : Nat → Option α} {r : α} (hc : c) (h : Ev g r) : Ev (fun n => if c then g n else g' n) r := by
  simpa only [if_pos hc] using h
theorem neg {c : Prop} [Decidable c] {g g' : Nat → Option α} {r : α} (hc : ¬ c) (h : Ev g' r) : Ev (fun n => if c then g n else g' n) r := by
  simpa only [if_neg hc] using h
end Ev

theorem w64 {x : Int} (h0 : -9223372036854775808 ≤ x) (h1 : x < 9223372036854775808) : wrap64 x = x := by unfold wrap64; omega
theorem u64w {x : Int} (h0 : 0 ≤ x) (h1 : x < 18446744073709551616) : IntKind.u64.wrap x = x := by rw [IntKind.wrap_u64]; omega

/-- A part, 0 where there is none. -/
def pt (l : List Int) (i : Int) : Int := if 0 ≤ i then l.getD i.toNat 0 else 0

theorem pt_get (l : List Int) (i : Nat) : pt l (i : Int) = l.getD i 0 := by simp [pt]
theorem pt_ok {l : List Int} (h : Ok l) (i : Int) : 0 ≤ pt l i ∧ pt l i < 4294967296 := by
  unfold pt
  split
  · exact h.get _
  · omega
theorem getD_ge {l : List Int} {i : Nat} (h : l.length ≤ i) : l.getD i 0 = 0 := by
  rw [List.getD_eq_getElem?_getD, List.getElem?_eq_none h]; rfl
theorem pt_beyond {l : List Int} {i : Int} (h : (l.length : Int) ≤ i) : pt l i = 0 := by
  unfold pt
  rw [if_pos (by omega)]
  exact getD_ge (by omega)

theorem part_eq (l : List Int) (i : Int) : nat_Nat_part.f l i = some (pt l i) := by
  unfold nat_Nat_part.f
  by_cases h : i < 0
  · rw [if_pos h, pt, if_neg (by omega)]
  · rw [if_neg h]
    by_cases h1 : i ≥ (l.length : Int)
    · rw [if_pos h1, pt_beyond h1]
    · rw [if_neg h1, if_pos (by omega), if_pos (by omega), pt, if_pos (by omega)]; rfl

/-! ### trim -/
theorem trim_loop {l : List Int} (ho : Ok l) (hl : l.length ≤ 1000000) (m : Nat) (hm : m ≤ l.length) (hz : ∀ i, m ≤ i → l.getD i 0 = 0) :
    Ev (fun k => nat_Nat_trim.l0 k l (m : Int)) (parts (nv l)) := by
  induction m with
  | zero =>
    refine Ev.succ ?_
    simp only [nat_Nat_trim.l0]
    refine Ev.neg (by omega) (Ev.pos (by omega) (Ev.pos (by omega) ?_))
    rw [← parts_take ho 0 hm hz (.inl rfl)]
    exact Ev.done _
  | succ m ih =>
    refine Ev.succ ?_
    simp only [nat_Nat_trim.l0]
    have e : wrap64 (((m + 1 : Nat) : Int) - 1) = (m : Int) := by rw [w64 (by omega) (by omega)]; omega
    rw [e]
    refine Ev.pos (by omega) (Ev.pos (by omega) (Ev.pos (by omega) ?_))
    by_cases h0 : l.getD m 0 = 0
    · refine Ev.pos (by simpa [rd] using h0) (ih (by omega) fun i hi => ?_)
      by_cases e : i = m
      · subst e; exact h0
      · exact hz i (by omega)
    · refine Ev.neg (by simpa [rd] using h0) (Ev.pos (by omega) (Ev.pos (by omega) ?_))
      rw [← parts_take ho (m + 1) hm hz (.inr h0)]
      exact Ev.done _

theorem trim_ev {l : List Int} (ho : Ok l) (hl : l.length ≤ 1000000) : Ev (fun k => nat_Nat_trim.f k l) (parts (nv l)) :=
  trim_loop ho hl l.length (Nat.le_refl _) fun _ hi => getD_ge hi

theorem told_ev {l : List Int} (ho : Ok l) (hl : l.length ≤ 1000000) : Ev (fun k => nat_told.f k l) (parts (nv l)) := trim_ev ho hl

theorem parts_len {l : List Int} (ho : Ok l) : (parts (nv l)).length ≤ l.length := parts_length_le (nv_lt ho)

/-! ### Of -/
theorem of_ev {n : Int} (h0 : 0 ≤ n) (h1 : n < 18446744073709551616) : Ev (fun k => nat_Of.f k n) (parts n.toNat) := by
  unfold nat_Of.f
  refine Ev.bind (a := parts n.toNat) ?_ (Ev.done _)
  have e : nv [n % 4294967296, n / 4294967296 % 4294967296] = n.toNat := by simp only [nv]; omega
  have := trim_ev (l := [n % 4294967296, n / 4294967296 % 4294967296]) (Ok.cons (by omega) (by omega) (Ok.cons (by omega) (by omega) Ok.nil)) (by simp)
  rwa [e] at this

/-! ### Len -/
theorem len_loop (x : Nat) : ∀ n : Nat, n + nlen x ≤ 100000000 → Ev (fun k => nat_Nat_Len.l0 k (n : Int) (x : Int)) ((n + nlen x : Nat) : Int) := by
  induction x using Nat.strongRecOn with
  | _ x ih =>
    intro n hn
    refine Ev.succ ?_
    simp only [nat_Nat_Len.l0]
    by_cases h0 : x = 0
    · subst h0
      refine Ev.neg (by omega) ?_
      rw [nlen_zero]; exact Ev.done _
    · refine Ev.pos (by omega) ?_
      have hx := nlen_pos h0
      rw [w64 (by omega) (by omega), show (x : Int) / 2 = ((x / 2 : Nat) : Int) by omega, show (n : Int) + 1 = ((n + 1 : Nat) : Int) by omega, hx, show n + (nlen (x / 2) + 1) = n + 1 + nlen (x / 2) by omega]
      exact ih _ (by omega) _ (by omega)

theorem B_pow (i : Nat) : (4294967296 : Nat) ^ i = 2 ^ (32 * i) := by rw [Nat.pow_mul]

theorem nlen_parts {n L : Nat} (hL : (parts n).length = L + 1) : nlen n = 32 * L + nlen ((parts n).getD L 0).toNat ∧ ((parts n).getD L 0).toNat ≠ 0 := by
  have hlt := nv_lt (Ok_parts n)
  rw [nv_parts, hL] at hlt
  have hg := nv_get (Ok_parts n) L
  rw [nv_parts] at hg
  have e : n / 4294967296 ^ L < 4294967296 := by rw [Nat.div_lt_iff_lt_mul (Nat.pow_pos (show 0 < 4294967296 by decide)), Nat.mul_comm, ← Nat.pow_succ]; exact hlt
  rw [Nat.mod_eq_of_lt e] at hg
  have hne : n / 4294967296 ^ L ≠ 0 := by
    rcases full_parts n with h | h
    · rw [h] at hL; simp at hL
    · rw [hL] at h; simp only [Nat.add_sub_cancel] at h; omega
  have ht : ((parts n).getD L 0).toNat = n / 4294967296 ^ L := by rw [← hg, Int.toNat_natCast]
  rw [ht]
  refine ⟨?_, hne⟩
  have h2 := nlen_div_pow n (32 * L)
  rw [← B_pow] at h2
  have h3 : nlen (n / 4294967296 ^ L) ≠ 0 := fun h => hne (nlen_eq_zero.1 h)
  omega

theorem len_ev {l : List Int} (ho : Ok l) (hl : l.length ≤ 1000000) : Ev (fun k => nat_Nat_Len.f k l) ((nlen (nv l) : Nat) : Int) := by
  unfold nat_Nat_Len.f
  refine Ev.bind (trim_ev ho hl) ?_
  have hp := parts_len ho
  by_cases h0 : (parts (nv l)).length = 0
  · refine Ev.pos (by omega) ?_
    have : nv l = 0 := by rw [← nv_parts (nv l), List.eq_nil_of_length_eq_zero h0]; rfl
    rw [this, nlen_zero]; exact Ev.done _
  · obtain ⟨L, hL⟩ : ∃ L, (parts (nv l)).length = L + 1 := ⟨(parts (nv l)).length - 1, by omega⟩
    refine Ev.neg (by omega) ?_
    rw [hL, show wrap64 (((L + 1 : Nat) : Int) - 1) = (L : Int) by rw [w64 (by omega) (by omega)]; omega]
    refine Ev.pos (by omega) (Ev.pos (by omega) ?_)
    obtain ⟨h1, h2⟩ := nlen_parts hL
    have hb := (Ok_parts (nv l)).get L
    rw [w64 (by omega) (by omega), show (32 : Int) * (L : Int) = ((32 * L : Nat) : Int) by omega, show rd (parts (nv l)) (L : Int) = (((parts (nv l)).getD L 0).toNat : Int) by simp only [rd, Int.toNat_natCast]; omega, h1]
    have : nlen ((parts (nv l)).getD L 0).toNat ≤ 32 := nlen_le (by omega)
    exact len_loop _ _ (by omega)

/-! ### Cmp -/
def sg (m n : Nat) : Int := if m < n then -1 else if n < m then 1 else 0
theorem sg_lt {m n : Nat} (h : m < n) : sg m n = -1 := by simp [sg, h]
theorem sg_gt {m n : Nat} (h : n < m) : sg m n = 1 := by simp [sg, h, show ¬ m < n by omega]
theorem sg_eq (m : Nat) : sg m m = 0 := by simp [sg]
theorem sg_neg {m n : Nat} : sg m n < 0 ↔ m < n := by unfold sg; split <;> (try split) <;> omega
theorem sg_swap (m n : Nat) : sg n m = - sg m n := by unfold sg; split <;> split <;> (try split) <;> omega

theorem compare_eq (a b : Int) : cmp_Compare_uint32.f a b = some (if a < b then -1 else if a > b then 1 else 0) := by
  unfold cmp_Compare_uint32.f cmp_isNaN_uint32.f
  simp only [bne_self_eq_false, Option.bind_some, Bool.false_eq_true, if_false]
  split
  · rfl
  · split <;> rfl

theorem step_div (n i : Nat) : n / 4294967296 ^ i = n / 4294967296 ^ i % 4294967296 + 4294967296 * (n / 4294967296 ^ (i + 1)) := by
  rw [Nat.pow_succ, ← Nat.div_div_eq_div_mul]; omega

theorem pt_nat {l : List Int} (h : Ok l) (i : Nat) : pt l (i : Int) = ((nv l / 4294967296 ^ i % 4294967296 : Nat) : Int) := by rw [pt_get, nv_get h]

theorem cmp_loop {a b : List Int} (ha : Ok a) (hb : Ok b) (m : Nat) (hm : m ≤ 1000000) (he : nv a / 4294967296 ^ m = nv b / 4294967296 ^ m) :
    Ev (fun k => nat_Cmp.l0 k a b ((m : Int) - 1)) (sg (nv a) (nv b)) := by
  induction m with
  | zero =>
    refine Ev.succ ?_
    simp only [nat_Cmp.l0]
    refine Ev.neg (by omega) ?_
    simp only [Nat.pow_zero, Nat.div_one] at he
    rw [he, sg_eq]; exact Ev.done _
  | succ m ih =>
    refine Ev.succ ?_
    simp only [nat_Cmp.l0]
    rw [show (((m + 1 : Nat) : Int) - 1) = (m : Int) by omega]
    refine Ev.pos (by omega) (Ev.bind0 (part_eq _ _) (Ev.bind0 (part_eq _ _) (Ev.bind0 (compare_eq _ _) ?_)))
    rw [pt_nat ha, pt_nat hb]
    have ea := step_div (nv a) m
    have eb := step_div (nv b) m
    rw [w64 (by omega) (by omega)]
    by_cases h1 : nv a / 4294967296 ^ m % 4294967296 < nv b / 4294967296 ^ m % 4294967296
    · rw [if_pos (by omega)]
      refine Ev.neg (by omega) ?_
      rw [sg_lt (Nat.lt_of_div_lt_div (c := 4294967296 ^ m) (by omega))]; exact Ev.done _
    · rw [if_neg (by omega)]
      by_cases h2 : nv b / 4294967296 ^ m % 4294967296 < nv a / 4294967296 ^ m % 4294967296
      · rw [if_pos (by omega)]
        refine Ev.neg (by omega) ?_
        rw [sg_gt (Nat.lt_of_div_lt_div (c := 4294967296 ^ m) (by omega))]; exact Ev.done _
      · rw [if_neg (by omega)]
        refine Ev.pos rfl (ih (by omega) (by omega))

theorem mx_nat (a b : Nat) : mx (a : Int) (b : Int) = ((max a b : Nat) : Int) := by unfold mx; split <;> omega
theorem mn_nat (a b : Nat) : mn (a : Int) (b : Int) = ((min a b : Nat) : Int) := by unfold mn; split <;> omega

theorem cmp_ev {a b : List Int} (ha : Ok a) (hb : Ok b) (la : a.length ≤ 1000000) (lb : b.length ≤ 1000000) :
    Ev (fun k => nat_Cmp.f k a b) (sg (nv a) (nv b)) := by
  unfold nat_Cmp.f
  rw [mx_nat, w64 (by omega) (by omega)]
  refine cmp_loop ha hb _ (by omega) ?_
  rw [Nat.div_eq_of_lt (Nat.lt_of_lt_of_le (nv_lt ha) (Nat.pow_le_pow_right (by omega) (by omega))), Nat.div_eq_of_lt (Nat.lt_of_lt_of_le (nv_lt hb) (Nat.pow_le_pow_right (by omega) (by omega)))]

end Go.Proofs.Ytlaffgojgfdlnaa.N
namespace Go.Proofs.Ytlaffgojgfdlnaa.N
open Go.RowKit Go.Proofs.Ytlaffgojgfdlnaa.P Go.Proofs.YtlaffgojgfdlnaaW.PrintWords Go.Proofs.YtlaffgojgfdlnaaW.PrintMore Sk

/-! ### a part is stored -/
theorem ok_set {l : List Int} (h : Ok l) (i : Nat) {v : Int} (h0 : 0 ≤ v) (h1 : v < 4294967296) : Ok (l.set i v) := by
  intro x hx
  rcases List.mem_or_eq_of_mem_set hx with hx | rfl
  · exact h x hx
  · exact ⟨h0, h1⟩
theorem getD_set (l : List Int) (i j : Nat) (v : Int) (hi : i < l.length) : (l.set i v).getD j 0 = if i = j then v else l.getD j 0 := by
  simp only [List.getD_eq_getElem?_getD, List.getElem?_set]
  split
  · rename_i h; subst h; simp
  · rfl
theorem nv_set (l : List Int) : ∀ (i : Nat) (v : Int), i < l.length → nv (l.set i v) + 4294967296 ^ i * (l.getD i 0).toNat = nv l + 4294967296 ^ i * v.toNat := by
  induction l with
  | nil => intro i v hi; simp at hi
  | cons x xs ih =>
    intro i v hi
    cases i with
    | zero => simp [nv]; omega
    | succ i =>
      have := ih i v (by simpa using hi)
      simp only [List.set_cons_succ, nv, List.getD_cons_succ, Nat.pow_succ]
      have e1 : 4294967296 ^ i * 4294967296 * (xs.getD i 0).toNat = 4294967296 * (4294967296 ^ i * (xs.getD i 0).toNat) := by rw [Nat.mul_comm (4294967296 ^ i) 4294967296, Nat.mul_assoc]
      have e2 : 4294967296 ^ i * 4294967296 * v.toNat = 4294967296 * (4294967296 ^ i * v.toNat) := by rw [Nat.mul_comm (4294967296 ^ i) 4294967296, Nat.mul_assoc]
      rw [e1, e2]
      omega
theorem ok_zeros (n : Nat) : Ok (List.replicate n 0) := by
  intro x hx
  obtain ⟨_, rfl⟩ := List.mem_replicate.1 hx
  omega
theorem getD_zeros (n i : Nat) : (List.replicate n (0 : Int)).getD i 0 = 0 := by
  rw [List.getD_eq_getElem?_getD, List.getElem?_replicate]; split <;> rfl
theorem mod_step (n i : Nat) : n % 4294967296 ^ (i + 1) = n % 4294967296 ^ i + 4294967296 ^ i * (n / 4294967296 ^ i % 4294967296) := by
  rw [Nat.pow_succ, Nat.mod_mul]

/-! ### Add -/
theorem alg_add {o o' i c x y q r A C : Nat} (h1 : o' + 4294967296 ^ i * (0 : Int).toNat = o + 4294967296 ^ i * q) (h2 : o + 4294967296 ^ i * c = A + C) (h3 : c + (x + y) = q + 4294967296 * r) :
    o' + 4294967296 ^ (i + 1) * r = A + 4294967296 ^ i * x + (C + 4294967296 ^ i * y) := by
  rw [Nat.pow_succ]
  generalize 4294967296 ^ i = B at *
  simp only [Int.toNat_zero, Nat.mul_zero, Nat.add_zero] at h1
  have e : B * (c + (x + y)) = B * (q + 4294967296 * r) := by rw [h3]
  simp only [Nat.mul_add] at e
  rw [Nat.mul_assoc]
  omega

theorem add_loop {a b : List Int} (ha : Ok a) (hb : Ok b) (n : Nat) (hn : n ≤ 1000000) (hs : nv a + nv b < 4294967296 ^ n) (d : Nat) :
    ∀ (i : Nat) (out : List Int) (c : Nat), i + d = n → out.length = n → Ok out → (∀ j, i ≤ j → out.getD j 0 = 0) → c ≤ 1 →
      nv out + 4294967296 ^ i * c = nv a % 4294967296 ^ i + nv b % 4294967296 ^ i →
      Ev (fun k => nat_Add.l0 k a b out (c : Int) (n : Int) (i : Int)) (parts (nv a + nv b)) := by
  induction d with
  | zero =>
    intro i out c hi hl ho hz hc hv
    obtain rfl : i = n := by omega
    refine Ev.succ ?_
    simp only [nat_Add.l0]
    refine Ev.neg (by omega) (Ev.bind (told_ev ho (by omega)) ?_)
    rw [Nat.mod_eq_of_lt (by omega), Nat.mod_eq_of_lt (by omega)] at hv
    have : c = 0 := by
      have h2 : 4294967296 ^ i * c < 4294967296 ^ i * 1 := by omega
      have := Nat.lt_of_mul_lt_mul_left h2
      omega
    subst this
    rw [show nv out = nv a + nv b by omega]
    exact Ev.done _
  | succ d ih =>
    intro i out c hi hl ho hz hc hv
    refine Ev.succ ?_
    simp only [nat_Add.l0]
    refine Ev.pos (by omega) (Ev.bind0 (part_eq _ _) (Ev.bind0 (part_eq _ _) (Ev.pos (by omega) (Ev.pos (by omega) ?_))))
    have pa := pt_ok ha i
    have pb := pt_ok hb i
    have ea := pt_nat ha i
    have eb := pt_nat hb i
    have ma := mod_step (nv a) i
    have mb := mod_step (nv b) i
    generalize hx : nv a / 4294967296 ^ i % 4294967296 = x at *
    generalize hy : nv b / 4294967296 ^ i % 4294967296 = y at *
    rw [ea, eb, u64w (x := (x : Int)) (by omega) (by omega), u64w (x := (y : Int)) (by omega) (by omega), u64w (x := (x : Int) + (y : Int)) (by omega) (by omega), u64w (by omega) (by omega), w64 (by omega) (by omega)]
    have hset := nv_set out i (((c : Int) + ((x : Int) + (y : Int))) % 4294967296) (by omega)
    rw [hz i (Nat.le_refl _)] at hset
    rw [show ((i : Int) + 1) = ((i + 1 : Nat) : Int) by omega, show ((c : Int) + ((x : Int) + (y : Int))) / 4294967296 = (((c + (x + y)) / 4294967296 : Nat) : Int) by omega]
    refine ih (i + 1) _ _ (by omega) (by simp [hl]) (ok_set ho _ (by omega) (by omega)) ?_ (by omega) ?_
    · intro j hj
      rw [Int.toNat_natCast, getD_set _ _ _ _ (by omega), if_neg (by omega)]
      exact hz j (by omega)
    · rw [Int.toNat_natCast, ma, mb]
      have e3 : (((c : Int) + ((x : Int) + (y : Int))) % 4294967296).toNat = (c + (x + y)) % 4294967296 := by omega
      rw [e3] at hset
      have e4 : c + (x + y) = (c + (x + y)) % 4294967296 + 4294967296 * ((c + (x + y)) / 4294967296) := by omega
      exact alg_add hset hv e4

theorem nv_lt_of {l : List Int} (h : Ok l) {n : Nat} (hn : l.length ≤ n) : nv l < 4294967296 ^ n := Nat.lt_of_lt_of_le (nv_lt h) (Nat.pow_le_pow_right (by omega) hn)

theorem add_ev {a b : List Int} (ha : Ok a) (hb : Ok b) (la : a.length ≤ 100000) (lb : b.length ≤ 100000) :
    Ev (fun k => nat_Add.f k a b) (parts (nv a + nv b)) := by
  unfold nat_Add.f
  rw [mx_nat, w64 (by omega) (by omega), show (((max a.length b.length : Nat) : Int) + 1) = ((max a.length b.length + 1 : Nat) : Int) by omega]
  refine Ev.pos (by omega) (Ev.pos (by omega) (Ev.bind0 rfl ?_))
  rw [Int.toNat_natCast, List.length_replicate]
  have h1 := nv_lt_of ha (n := max a.length b.length) (by omega)
  have h2 := nv_lt_of hb (n := max a.length b.length) (by omega)
  refine add_loop ha hb (max a.length b.length + 1) (by omega) (by rw [Nat.pow_succ]; omega) (max a.length b.length + 1) 0 _ 0 (by omega) (by simp) (ok_zeros _) (fun j _ => getD_zeros _ _) (by omega) ?_
  rw [nv_replicate]; simp [Nat.mod_one]

/-! ### Sub -/
theorem alg_sub {o o' i bw x y q r A C : Nat} (h1 : o' + 4294967296 ^ i * (0 : Int).toNat = o + 4294967296 ^ i * q) (h2 : o + C = A + 4294967296 ^ i * bw) (h3 : x + 4294967296 * r = q + y + bw) :
    o' + (C + 4294967296 ^ i * y) = A + 4294967296 ^ i * x + 4294967296 ^ (i + 1) * r := by
  rw [Nat.pow_succ]
  generalize 4294967296 ^ i = B at *
  simp only [Int.toNat_zero, Nat.mul_zero, Nat.add_zero] at h1
  have e : B * (x + 4294967296 * r) = B * (q + y + bw) := by rw [h3]
  simp only [Nat.mul_add] at e
  rw [Nat.mul_assoc]
  omega

theorem and_neg1 : Go.bits .and .i64 (-1) 1 = 1 := by decide +kernel
theorem and_zero1 : Go.bits .and .i64 0 1 = 0 := by decide +kernel

theorem sub_loop {a b : List Int} (ha : Ok a) (hb : Ok b) (la : a.length ≤ 100000) (hs : nv b ≤ nv a) (d : Nat) :
    ∀ (i : Nat) (out : List Int) (c : Nat), i + d = a.length → out.length = a.length → Ok out → (∀ j, i ≤ j → out.getD j 0 = 0) → c ≤ 1 →
      nv out + nv b % 4294967296 ^ i = nv a % 4294967296 ^ i + 4294967296 ^ i * c →
      Ev (fun k => nat_Sub.l0 k a b out (c : Int) (a.length : Int) (i : Int)) (parts (nv a - nv b), 0) := by
  induction d with
  | zero =>
    intro i out c hi hl ho hz hc hv
    obtain rfl : i = a.length := by omega
    refine Ev.succ ?_
    simp only [nat_Sub.l0]
    refine Ev.neg (by omega) (Ev.bind (told_ev ho (by omega)) ?_)
    have h1 := nv_lt ha
    have h3 := nv_lt ho
    rw [hl] at h3
    rw [Nat.mod_eq_of_lt h1, Nat.mod_eq_of_lt (by omega)] at hv
    have : c = 0 := by
      have h2 : 4294967296 ^ a.length * c < 4294967296 ^ a.length * 1 := by omega
      have := Nat.lt_of_mul_lt_mul_left h2
      omega
    subst this
    rw [show nv out = nv a - nv b by omega]
    exact Ev.done _
  | succ d ih =>
    intro i out c hi hl ho hz hc hv
    refine Ev.succ ?_
    simp only [nat_Sub.l0]
    refine Ev.pos (by omega) (Ev.pos (by omega) (Ev.pos (by omega) (Ev.bind0 (part_eq _ _) (Ev.pos (by omega) ?_))))
    have ga := ha.get i
    have pb := pt_ok hb i
    have ea := nv_get ha i
    have eb := pt_nat hb i
    have ma := mod_step (nv a) i
    have mb := mod_step (nv b) i
    rw [show rd a (i : Int) = a.getD i 0 by simp [rd], ← ea]
    generalize hx : nv a / 4294967296 ^ i % 4294967296 = x at *
    generalize hy : nv b / 4294967296 ^ i % 4294967296 = y at *
    rw [eb, w64 (x := (x : Int)) (by omega) (by omega), w64 (x := (y : Int)) (by omega) (by omega), w64 (x := (x : Int) - (y : Int)) (by omega) (by omega), w64 (x := (x : Int) - (y : Int) - (c : Int)) (by omega) (by omega), w64 (by omega) (by omega), Int.toNat_natCast]
    have hset := nv_set out i (((x : Int) - (y : Int) - (c : Int)) % 4294967296) (by omega)
    rw [hz i (Nat.le_refl _)] at hset
    rw [show ((i : Int) + 1) = ((i + 1 : Nat) : Int) by omega]
    obtain ⟨r, hr1, hr2, hr3⟩ : ∃ r : Nat, r ≤ 1 ∧ Go.bits .and .i64 (((x : Int) - (y : Int) - (c : Int)) / 9223372036854775808) 1 = (r : Int) ∧ ((((x : Int) - (y : Int) - (c : Int)) % 4294967296).toNat : Int) = (x : Int) - y - c + 4294967296 * r := by
      by_cases h : (x : Int) - (y : Int) - (c : Int) < 0
      · refine ⟨1, by omega, ?_, by omega⟩
        rw [show ((x : Int) - (y : Int) - (c : Int)) / 9223372036854775808 = -1 by omega]; exact and_neg1
      · refine ⟨0, by omega, ?_, by omega⟩
        rw [show ((x : Int) - (y : Int) - (c : Int)) / 9223372036854775808 = 0 by omega]; exact and_zero1
    rw [hr2]
    refine ih (i + 1) _ _ (by omega) (by simp [hl]) (ok_set ho _ (by omega) (by omega)) ?_ hr1 ?_
    · intro j hj
      rw [getD_set _ _ _ _ (by omega), if_neg (by omega)]
      exact hz j (by omega)
    · rw [ma, mb]
      exact alg_sub hset hv (by omega)

theorem sub_ev {a b : List Int} (ha : Ok a) (hb : Ok b) (la : a.length ≤ 100000) (lb : b.length ≤ 100000) :
    Ev (fun k => nat_Sub.f k a b) (if nv a < nv b then (([] : List Int), 3) else (parts (nv a - nv b), 0)) := by
  unfold nat_Sub.f
  refine Ev.bind (cmp_ev ha hb (by omega) (by omega)) ?_
  by_cases h : nv a < nv b
  · rw [if_pos h]
    exact Ev.pos (sg_neg.2 h) (Ev.done _)
  · rw [if_neg h]
    refine Ev.neg (fun h2 => h (sg_neg.1 h2)) (Ev.pos (by omega) (Ev.pos (by omega) (Ev.bind0 rfl ?_)))
    rw [Int.toNat_natCast, List.length_replicate]
    refine sub_loop ha hb la (by omega) a.length 0 _ 0 (by omega) (by simp) (ok_zeros _) (fun j _ => getD_zeros _ _) (by omega) ?_
    rw [nv_replicate]; simp [Nat.mod_one]

end Go.Proofs.Ytlaffgojgfdlnaa.N
namespace Go.Proofs.Ytlaffgojgfdlnaa.N
open Go.RowKit Go.Proofs.Ytlaffgojgfdlnaa.P Go.Proofs.YtlaffgojgfdlnaaW.PrintWords Go.Proofs.YtlaffgojgfdlnaaW.PrintMore Sk

/-! ### Mul -/
theorem rd_nat (l : List Int) (i : Nat) : rd l (i : Int) = l.getD i 0 := by unfold rd; rw [Int.toNat_natCast]
theorem nlen_nv {l : List Int} (h : Ok l) : nlen (nv l) ≤ 32 * l.length := nlen_le (by rw [← B_pow]; exact nv_lt h)
theorem alg_mul {o o' P r0 c x y q r T Y : Nat} (h1 : o' + P * r0 = o + P * q) (h2 : o + P * c = T) (h3 : c + (x * y + r0) = q + 4294967296 * r) (hY : Y = P * (x * y)) :
    o' + P * 4294967296 * r = T + Y := by
  have e : P * (c + (x * y + r0)) = P * (q + 4294967296 * r) := by rw [h3]
  simp only [Nat.mul_add] at e
  rw [Nat.mul_assoc]
  omega

theorem mul_inner {A B : List Int} (hB : Ok B) (lB : B.length ≤ 100000) (lA : A.length ≤ 100000) (i : Nat) (hi : i < A.length) (x : Nat) (hx : x < 4294967296) (S : Nat) (r : List Int × Int)
    (cont : ∀ out' : List Int, out'.length = A.length + B.length → Ok out' → (∀ j, i + 1 + B.length ≤ j → out'.getD j 0 = 0) → nv out' = S + 4294967296 ^ i * x * nv B →
      Ev (fun k => nat_Mul.l0 k B out' A (A.length : Int) ((i + 1 : Nat) : Int)) r) (d : Nat) :
    ∀ (j : Nat) (out : List Int) (c : Nat), j + d = B.length → out.length = A.length + B.length → Ok out → (∀ m, i + B.length ≤ m → out.getD m 0 = 0) → c < 4294967296 →
      nv out + 4294967296 ^ (i + j) * c = S + 4294967296 ^ i * x * (nv B % 4294967296 ^ j) →
      Ev (fun k => nat_Mul.l1 k B out (i : Int) (x : Int) (c : Int) A (A.length : Int) (i : Int) B (B.length : Int) (j : Int)) r := by
  induction d with
  | zero =>
    intro j out c hj hl ho hz hc hv
    obtain rfl : j = B.length := by omega
    refine Ev.succ ?_
    simp only [nat_Mul.l1]
    rw [w64 (x := (i : Int) + (B.length : Int)) (by omega) (by omega), w64 (x := (i : Int) + 1) (by omega) (by omega), show (i : Int) + (B.length : Int) = ((i + B.length : Nat) : Int) by omega, show (c : Int) % 4294967296 = (c : Int) by omega, show (i : Int) + 1 = ((i + 1 : Nat) : Int) by omega]
    refine Ev.neg (by omega) (Ev.pos (by omega) (Ev.pos (by omega) ?_))
    rw [Int.toNat_natCast]
    have hset := nv_set out (i + B.length) (c : Int) (by omega)
    rw [hz _ (Nat.le_refl _), Int.toNat_natCast] at hset
    refine cont _ (by simp [hl]) (ok_set (v := (c : Int)) ho _ (by omega) (by omega)) ?_ ?_
    · intro m hm
      rw [getD_set _ _ _ _ (by omega), if_neg (by omega)]
      exact hz m (by omega)
    · rw [Nat.mod_eq_of_lt (nv_lt hB)] at hv
      simp only [Int.toNat_zero, Nat.mul_zero, Nat.add_zero] at hset
      omega
  | succ d ih =>
    intro j out c hj hl ho hz hc hv
    refine Ev.succ ?_
    simp only [nat_Mul.l1]
    rw [w64 (x := (i : Int) + (j : Int)) (by omega) (by omega), w64 (x := (j : Int) + 1) (by omega) (by omega), show (i : Int) + (j : Int) = ((i + j : Nat) : Int) by omega, show (j : Int) + 1 = ((j + 1 : Nat) : Int) by omega]
    refine Ev.pos (by omega) (Ev.pos (by omega) (Ev.pos (by omega) (Ev.pos (by omega) (Ev.pos (by omega) ?_))))
    rw [Int.toNat_natCast, rd_nat B j, rd_nat out (i + j)]
    have gB := hB.get j
    have go := ho.get (i + j)
    have eB := nv_get hB j
    have mB := mod_step (nv B) j
    have hset := nv_set out (i + j)
    generalize hy : nv B / 4294967296 ^ j % 4294967296 = y at *
    rw [← eB]
    obtain ⟨r0, hr0⟩ : ∃ r0 : Nat, out.getD (i + j) 0 = (r0 : Int) := ⟨(out.getD (i + j) 0).toNat, by omega⟩
    rw [hr0] at go ⊢
    simp only [hr0, Int.toNat_natCast] at hset
    have hxy : x * y ≤ 4294967295 * 4294967295 := Nat.mul_le_mul (by omega) (by omega)
    rw [u64w (x := (x : Int)) (by omega) (by omega), u64w (x := (y : Int)) (by omega) (by omega), u64w (x := (r0 : Int)) (by omega) (by omega), show (x : Int) * (y : Int) = ((x * y : Nat) : Int) by simp,
      u64w (x := ((x * y : Nat) : Int)) (by omega) (by omega), u64w (x := ((x * y : Nat) : Int) + (r0 : Int)) (by omega) (by omega), u64w (by omega) (by omega)]
    generalize hw : x * y = w at *
    rw [show ((c : Int) + ((w : Int) + (r0 : Int))) % 4294967296 = (((c + (w + r0)) % 4294967296 : Nat) : Int) by omega, show ((c : Int) + ((w : Int) + (r0 : Int))) / 4294967296 = (((c + (w + r0)) / 4294967296 : Nat) : Int) by omega]
    have hset2 := hset (((c + (w + r0)) % 4294967296 : Nat) : Int) (by omega)
    rw [Int.toNat_natCast] at hset2
    refine ih (j + 1) _ _ (by omega) (by simp [hl]) (ok_set ho _ (by omega) (by omega)) ?_ (by omega) ?_
    · intro m hm
      rw [getD_set _ _ _ _ (by omega), if_neg (by omega)]
      exact hz m hm
    · rw [mB, show i + (j + 1) = i + j + 1 by omega, Nat.pow_succ]
      have h3 : c + (w + r0) = (c + (w + r0)) % 4294967296 + 4294967296 * ((c + (w + r0)) / 4294967296) := by omega
      rw [← hw] at h3 hset2 ⊢
      have := alg_mul hset2 hv h3 (Y := 4294967296 ^ (i + j) * (x * y)) rfl
      rw [this, Nat.mul_add, Nat.pow_add]
      have e : 4294967296 ^ i * 4294967296 ^ j * (x * y) = 4294967296 ^ i * x * (4294967296 ^ j * y) := by
        generalize 4294967296 ^ i = p
        generalize 4294967296 ^ j = q
        grind
      rw [e]; omega

theorem mul_outer {A B : List Int} (hA : Ok A) (hB : Ok B) (lA : A.length ≤ 100000) (lB : B.length ≤ 100000) (d : Nat) :
    ∀ (i : Nat) (out : List Int), i + d = A.length → out.length = A.length + B.length → Ok out → (∀ j, i + B.length ≤ j → out.getD j 0 = 0) → nv out = (nv A % 4294967296 ^ i) * nv B →
      Ev (fun k => nat_Mul.l0 k B out A (A.length : Int) (i : Int)) (parts (nv A * nv B), 0) := by
  induction d with
  | zero =>
    intro i out hi hl ho hz hv
    obtain rfl : i = A.length := by omega
    refine Ev.succ ?_
    simp only [nat_Mul.l0]
    refine Ev.neg (by omega) (Ev.bind (told_ev ho (by omega)) ?_)
    rw [hv, Nat.mod_eq_of_lt (nv_lt hA)]
    exact Ev.done _
  | succ d ih =>
    intro i out hi hl ho hz hv
    refine Ev.succ ?_
    simp only [nat_Mul.l0]
    refine Ev.pos (by omega) (Ev.pos (by omega) (Ev.pos (by omega) ?_))
    have ea := nv_get hA i
    have ma := mod_step (nv A) i
    rw [show rd A (i : Int) = A.getD i 0 by simp [rd], ← ea]
    have hx : nv A / 4294967296 ^ i % 4294967296 < 4294967296 := by omega
    generalize nv A / 4294967296 ^ i % 4294967296 = x at *
    refine mul_inner hB lB lA i (by omega) x hx ((nv A % 4294967296 ^ i) * nv B) _ (fun out' h1 h2 h3 h4 => ih (i + 1) out' (by omega) h1 h2 h3 ?_) B.length 0 out 0 (by omega) hl ho hz (by omega) ?_
    · rw [h4, ma, Nat.add_mul]
    · rw [hv]; simp [Nat.mod_one]

theorem mul_ev {a b : List Int} (ha : Ok a) (hb : Ok b) (la : a.length ≤ 100000) (lb : b.length ≤ 100000) :
    Ev (fun k => nat_Mul.f k a b) (if nlen (nv a) + nlen (nv b) > 16384 then (([] : List Int), 6) else (parts (nv a * nv b), 0)) := by
  unfold nat_Mul.f
  refine Ev.bind (len_ev ha (by omega)) (Ev.bind (len_ev hb (by omega)) ?_)
  have h1 := nlen_nv ha
  have h2 := nlen_nv hb
  rw [w64 (x := (nlen (nv a) : Int) + (nlen (nv b) : Int)) (by omega) (by omega)]
  by_cases h : nlen (nv a) + nlen (nv b) > 16384
  · rw [if_pos h]; exact Ev.pos (by omega) (Ev.done _)
  · rw [if_neg h]
    refine Ev.neg (by omega) (Ev.bind (trim_ev ha (by omega)) (Ev.bind (trim_ev hb (by omega)) ?_))
    have p1 := parts_len ha
    have p2 := parts_len hb
    rw [w64 (by omega) (by omega), show ((parts (nv a)).length : Int) + ((parts (nv b)).length : Int) = (((parts (nv a)).length + (parts (nv b)).length : Nat) : Int) by omega]
    refine Ev.pos (by omega) (Ev.pos (by omega) ?_)
    rw [Int.toNat_natCast]
    have := mul_outer (Ok_parts (nv a)) (Ok_parts (nv b)) (by omega) (by omega) (parts (nv a)).length 0 (List.replicate ((parts (nv a)).length + (parts (nv b)).length) 0) (by omega) (by simp) (ok_zeros _) (fun j _ => getD_zeros _ _) (by rw [nv_replicate]; simp [Nat.mod_one])
    rwa [nv_parts, nv_parts] at this

end Go.Proofs.Ytlaffgojgfdlnaa.N
namespace Go.Proofs.Ytlaffgojgfdlnaa.N
open Go.RowKit Go.Proofs.Ytlaffgojgfdlnaa.P Go.Proofs.YtlaffgojgfdlnaaW.PrintWords Go.Proofs.YtlaffgojgfdlnaaW.PrintMore Sk

/-! ### two parts together -/
theorem both_eq {x y : Nat} (hx : x < 4294967296) (hy : y < 4294967296) :
    Go.bits .or .u64 (IntKind.u64.wrap (IntKind.u64.wrap (x : Int) * 4294967296)) (IntKind.u64.wrap (y : Int)) = ((x * 4294967296 + y : Nat) : Int) := by
  rw [u64w (x := (x : Int)) (by omega) (by omega), u64w (x := (y : Int)) (by omega) (by omega), u64w (by omega) (by omega), show (x : Int) * 4294967296 = ((x * 4294967296 : Nat) : Int) by omega,
    Go.bits_or_u64_nat _ _ (by omega) (by omega)]
  have := Nat.two_pow_add_eq_or_of_lt (i := 32) (b := y) (by omega) x
  rw [show 2 ^ 32 * x = x * 4294967296 by omega] at this
  rw [this]

/-! ### Word -/
theorem pt_nat' {l : List Int} (h : Ok l) (i : Nat) : ∃ x : Nat, pt l (i : Int) = (x : Int) ∧ x < 4294967296 ∧ x = nv l / 4294967296 ^ i % 4294967296 :=
  ⟨_, pt_nat h i, by omega, rfl⟩

theorem word_ev {l : List Int} (ho : Ok l) (hl : l.length ≤ 1000000) :
    Ev (fun k => nat_Nat_Word.f k l) (if nv l < 18446744073709551616 then (((nv l : Nat) : Int), 0) else (0, 6)) := by
  unfold nat_Nat_Word.f
  refine Ev.bind (trim_ev ho hl) ?_
  by_cases h : nv l < 18446744073709551616
  · rw [if_pos h]
    have := parts_length_le (n := nv l) (k := 2) (by omega)
    refine Ev.neg (by omega) (Ev.bind0 (part_eq _ _) (Ev.bind0 (part_eq _ _) ?_))
    obtain ⟨x, h1, h2, h3⟩ := pt_nat' ho 1
    obtain ⟨y, h4, h5, h6⟩ := pt_nat' ho 0
    rw [show (1 : Int) = ((1 : Nat) : Int) by rfl, show (0 : Int) = ((0 : Nat) : Int) by rfl, h1, h4, both_eq h2 h5, show x * 4294967296 + y = nv l by omega]
    exact Ev.done _
  · rw [if_neg h]
    have := parts_length_pos (n := nv l) (k := 2) (by omega)
    exact Ev.pos (by omega) (Ev.done _)

/-! ### Bit -/
theorem bit_eq {l : List Int} (ho : Ok l) (i : Int) (h1 : i < 9223372036854775808) :
    nat_Nat_Bit.f l i = some (if 0 ≤ i ∧ (nv l).testBit i.toNat = true then 1 else 0) := by
  unfold nat_Nat_Bit.f
  by_cases h : i < 0
  · rw [if_pos h, if_neg (by omega)]
  · rw [if_neg h]
    obtain ⟨n, rfl⟩ : ∃ n : Nat, i = n := ⟨i.toNat, by omega⟩
    rw [show Int.tdiv (n : Int) 32 = ((n / 32 : Nat) : Int) from rfl, show Int.tmod (n : Int) 32 = ((n % 32 : Nat) : Int) from rfl, w64 (x := ((n / 32 : Nat) : Int)) (by omega) (by omega), part_eq]
    obtain ⟨x, h2, h3, h4⟩ := pt_nat' ho (n / 32)
    rw [h2]
    simp only [Option.bind_some]
    rw [if_pos (by omega)]
    have e1 : shr .u32 (x : Int) ((n % 32 : Nat) : Int) = ((x / 2 ^ (n % 32) : Nat) : Int) := by
      unfold shr
      rw [Int.toNat_natCast, Nat.min_eq_left (show n % 32 ≤ IntKind.u32.bits by simp [IntKind.bits]; omega)]
      simp
    have hq : x / 2 ^ (n % 32) < 4294967296 := Nat.lt_of_le_of_lt (Nat.div_le_self _ _) h3
    rw [e1, show (1 : Int) = ((1 : Nat) : Int) from rfl, Go.u32_and_nat _ _ hq (by omega), Nat.and_one_is_mod, w64 (by omega) (by omega), Int.toNat_natCast]
    have e2 : (nv l).testBit n = decide (x / 2 ^ (n % 32) % 2 = 1) := by
      rw [h4, ← Nat.testBit_eq_decide_div_mod_eq, show (4294967296 : Nat) = 2 ^ 32 by rfl, Nat.testBit_mod_two_pow, ← Nat.pow_mul, Nat.testBit_div_two_pow]
      rw [show n % 32 + 32 * (n / 32) = n by omega]
      simp; omega
    rw [e2]
    rcases Nat.mod_two_eq_zero_or_one (x / 2 ^ (n % 32)) with h5 | h5
    · rw [h5, if_neg (by simp)]; rfl
    · rw [h5, if_pos ⟨by omega, by simp⟩]

/-! ### Zeros -/
def tz (n : Nat) : Nat := if n = 0 then 0 else if n % 2 = 1 then 0 else tz (n / 2) + 1
termination_by n
decreasing_by omega
theorem tz_zero : tz 0 = 0 := by rw [tz]; simp
theorem tz_odd {n : Nat} (h : n % 2 = 1) : tz n = 0 := by rw [tz, if_neg (by omega), if_pos h]
theorem tz_even {n : Nat} (h : n % 2 = 0) (h0 : n ≠ 0) : tz n = tz (n / 2) + 1 := by rw [tz, if_neg h0, if_neg (by omega)]
theorem tz_two_mul {n : Nat} (h : n ≠ 0) : tz (2 * n) = tz n + 1 := by rw [tz_even (by omega) (by omega)]; congr 2; omega
theorem tz_pow_mul {n : Nat} (h : n ≠ 0) (k : Nat) : tz (2 ^ k * n) = k + tz n := by
  induction k with
  | zero => simp
  | succ k ih =>
    rw [Nat.pow_succ, Nat.mul_comm (2 ^ k) 2, Nat.mul_assoc, tz_two_mul (Nat.mul_ne_zero (by have := Nat.two_pow_pos k; omega) h), ih]; omega
theorem tz_split {n : Nat} (h : n ≠ 0) : ∃ m, n = 2 ^ tz n * m ∧ m % 2 = 1 := by
  induction n using Nat.strongRecOn with
  | _ n ih =>
    by_cases h1 : n % 2 = 1
    · exact ⟨n, by rw [tz_odd h1]; simp, h1⟩
    · obtain ⟨m, e, hm⟩ := ih (n / 2) (by omega) (by omega)
      refine ⟨m, ?_, hm⟩
      rw [tz_even (by omega) h, Nat.pow_succ, Nat.mul_comm (2 ^ tz (n / 2)) 2, Nat.mul_assoc, ← e]; omega
theorem tz_lt_nlen {n : Nat} (h : n ≠ 0) : tz n < nlen n := by
  obtain ⟨m, e, hm⟩ := tz_split h
  refine nlen_gt (Nat.le_trans ?_ (Nat.le_of_eq e.symm))
  exact Nat.le_mul_of_pos_right _ (by omega)
theorem tz_mod {n : Nat} (h : n ≠ 0) (k : Nat) : n % 2 ^ k = 0 ↔ k ≤ tz n := by
  obtain ⟨m, e, hm⟩ := tz_split h
  constructor
  · intro h0
    by_cases hk : k ≤ tz n
    · exact hk
    · exfalso
      obtain ⟨q, hq⟩ := Nat.dvd_of_mod_eq_zero h0
      have e2 : 2 ^ tz n * m = 2 ^ tz n * (2 * (2 ^ (k - tz n - 1) * q)) := by
        rw [← e]
        have : 2 ^ k = 2 ^ tz n * (2 * 2 ^ (k - tz n - 1)) := by rw [← Nat.pow_succ', ← Nat.pow_add]; congr 1; omega
        conv => lhs; rw [hq, this]
        rw [Nat.mul_assoc, Nat.mul_assoc]
      have := Nat.eq_of_mul_eq_mul_left (Nat.two_pow_pos _) e2
      omega
  · intro hk
    rw [e]
    have : 2 ^ tz n = 2 ^ k * 2 ^ (tz n - k) := by rw [← Nat.pow_add]; congr 1; omega
    rw [this, Nat.mul_assoc, Nat.mul_mod_right]

theorem index_loop (l : List Int) (hl : l.length ≤ 1000000) (d : Nat) : ∀ i : Nat, i + d = l.length → (∀ j, j < i → l.getD j 0 = 0) →
    ∃ r : Int, Ev (fun k => slices_IndexNz.l0 k l (i : Int)) r ∧ ((r = -1 ∧ ∀ j, l.getD j 0 = 0) ∨ ∃ j : Nat, r = (j : Int) ∧ j < l.length ∧ l.getD j 0 ≠ 0 ∧ ∀ m, m < j → l.getD m 0 = 0) := by
  induction d with
  | zero =>
    intro i hi hz
    refine ⟨-1, Ev.succ ?_, .inl ⟨rfl, fun j => ?_⟩⟩
    · simp only [slices_IndexNz.l0]
      exact Ev.neg (by omega) (Ev.done _)
    · by_cases h : j < i
      · exact hz j h
      · exact getD_ge (by omega)
  | succ d ih =>
    intro i hi hz
    by_cases h0 : l.getD i 0 = 0
    · obtain ⟨r, h1, h2⟩ := ih (i + 1) (by omega) (fun j hj => by
        by_cases e : j = i
        · subst e; exact h0
        · exact hz j (by omega))
      refine ⟨r, Ev.succ ?_, h2⟩
      simp only [slices_IndexNz.l0]
      rw [rd_nat, w64 (by omega) (by omega)]
      exact Ev.pos (by omega) (Ev.pos (by omega) (Ev.pos h0 h1))
    · refine ⟨i, Ev.succ ?_, .inr ⟨i, rfl, by omega, h0, hz⟩⟩
      simp only [slices_IndexNz.l0]
      rw [rd_nat]
      exact Ev.pos (by omega) (Ev.pos (by omega) (Ev.neg h0 (Ev.done _)))

theorem zeros_loop (x : Nat) (h : x < 4294967296) (h0 : x ≠ 0) : ∀ n : Nat, n + tz x ≤ 100000000 → Ev (fun k => nat_Nat_Zeros.l0 k (n : Int) (x : Int)) ((n + tz x : Nat) : Int) := by
  induction x using Nat.strongRecOn with
  | _ x ih =>
    intro n hn
    refine Ev.succ ?_
    simp only [nat_Nat_Zeros.l0]
    rw [show (1 : Int) = ((1 : Nat) : Int) from rfl, Go.u32_and_nat _ _ h (by omega), Nat.and_one_is_mod]
    by_cases h1 : x % 2 = 1
    · rw [tz_odd h1]
      exact Ev.neg (by omega) (Ev.done _)
    · have e := tz_even (n := x) (by omega) h0
      refine Ev.pos (by omega) ?_
      rw [w64 (by omega) (by omega), show (x : Int) / 2 = ((x / 2 : Nat) : Int) by omega, show (n : Int) + ((1 : Nat) : Int) = ((n + 1 : Nat) : Int) by omega, e, show n + (tz (x / 2) + 1) = n + 1 + tz (x / 2) by omega]
      exact ih _ (by omega) (by omega) (by omega) _ (by omega)

theorem tz_low {x r : Nat} (h : x < 4294967296) (h0 : x ≠ 0) : tz (x + 4294967296 * r) = tz x := by
  have h1 : tz x < 32 := Nat.lt_of_lt_of_le (tz_lt_nlen h0) (nlen_le (by omega))
  obtain ⟨m, e, hm⟩ := tz_split h0
  have e2 : x + 4294967296 * r = 2 ^ tz x * (m + 2 ^ (32 - tz x) * r) := by
    rw [Nat.mul_add, ← e, ← Nat.mul_assoc, ← Nat.pow_add, show tz x + (32 - tz x) = 32 by omega]
  have e3 : 2 ^ (32 - tz x) * r = 2 * (2 ^ (31 - tz x) * r) := by rw [show 32 - tz x = (31 - tz x) + 1 by omega, Nat.pow_succ', Nat.mul_assoc]
  rw [e2, tz_pow_mul (by omega), tz_odd (n := m + 2 ^ (32 - tz x) * r) (by omega), Nat.add_zero]

theorem zeros_ev {l : List Int} (ho : Ok l) (hl : l.length ≤ 1000000) : Ev (fun k => nat_Nat_Zeros.f k l) ((tz (nv l) : Nat) : Int) := by
  unfold nat_Nat_Zeros.f
  obtain ⟨r, h1, h2⟩ := index_loop l hl l.length 0 (by omega) (fun j hj => by omega)
  refine Ev.bind (a := r) h1 ?_
  rcases h2 with ⟨rfl, h2⟩ | ⟨j, rfl, hj, h3, h4⟩
  · refine Ev.pos (by omega) ?_
    have : nv l = 0 := by rw [nv_ext ho Ok.nil (fun i => by rw [h2 i]; rfl)]; rfl
    rw [this, tz_zero]; exact Ev.done _
  · refine Ev.neg (by omega) (Ev.pos (by omega) (Ev.pos (by omega) ?_))
    have g := ho.get j
    obtain ⟨x, hx⟩ : ∃ x : Nat, l.getD j 0 = (x : Int) := ⟨(l.getD j 0).toNat, by omega⟩
    have hx0 : x ≠ 0 := by omega
    have h32 : tz x < 32 := Nat.lt_of_lt_of_le (tz_lt_nlen hx0) (nlen_le (by omega))
    have e1 : nv (l.take j) = 0 := by
      rw [nv_ext (ho.take j) Ok.nil (fun i => ?_)]
      · rfl
      · by_cases hi : i < j
        · have := h4 i hi
          simpa [List.getD_eq_getElem?_getD, hi] using this
        · simp [List.getD_eq_getElem?_getD, List.getElem?_take, hi]
    have e2 : nv l = 4294967296 ^ j * (x + 4294967296 * (nv l / 4294967296 ^ (j + 1))) := by
      have m := mod_step (nv l) j
      have d1 := Nat.div_add_mod (nv l) (4294967296 ^ j)
      have st := step_div (nv l) j
      have gx := nv_get ho j
      rw [nv_take ho] at e1
      rw [hx] at gx
      rw [e1, Nat.add_zero] at d1
      have : nv l / 4294967296 ^ j % 4294967296 = x := by omega
      rw [this] at st
      rw [← st]; exact d1.symm
    rw [rd_nat, hx, w64 (by omega) (by omega), show (32 : Int) * (j : Int) = ((32 * j : Nat) : Int) by omega]
    have e3 : tz (nv l) = 32 * j + tz x := by
      conv => lhs; rw [e2, B_pow]
      rw [tz_pow_mul (by omega), tz_low (by omega) hx0]
    rw [e3]
    exact zeros_loop x (by omega) hx0 _ (by omega)

end Go.Proofs.Ytlaffgojgfdlnaa.N
namespace Go.Proofs.Ytlaffgojgfdlnaa.N
set_option linter.unusedVariables false
open Go.RowKit Go.Proofs.Ytlaffgojgfdlnaa.P Go.Proofs.YtlaffgojgfdlnaaW.PrintWords Go.Proofs.YtlaffgojgfdlnaaW.PrintMore Sk

/-! ### Left, Right: digits -/
/-- Part i of n, for any whole i. -/
def dg (n : Nat) (i : Int) : Nat := if 0 ≤ i then n / 4294967296 ^ i.toNat % 4294967296 else 0
theorem dg_lt (n : Nat) (i : Int) : dg n i < 4294967296 := by unfold dg; split <;> omega
theorem pt_dg {l : List Int} (h : Ok l) (i : Int) : pt l i = ((dg (nv l) i : Nat) : Int) := by
  unfold dg
  by_cases hi : 0 ≤ i
  · obtain ⟨j, rfl⟩ : ∃ j : Nat, i = j := ⟨i.toNat, by omega⟩
    rw [pt_nat h, if_pos hi, Int.toNat_natCast]
  · rw [pt, if_neg hi, if_neg hi]; rfl
theorem dg_testBit (n : Nat) (i : Int) (j : Nat) : (dg n i).testBit j = (decide (j < 32) && decide (0 ≤ i) && n.testBit (32 * i.toNat + j)) := by
  unfold dg
  by_cases hi : 0 ≤ i
  · rw [if_pos hi, show (4294967296 : Nat) = 2 ^ 32 by rfl, Nat.testBit_mod_two_pow, ← Nat.pow_mul, Nat.testBit_div_two_pow, Nat.add_comm j]
    simp [hi]
  · rw [if_neg hi]; simp [hi]
theorem two_testBit {x y : Nat} (hy : y < 4294967296) (j : Nat) : (x * 4294967296 + y).testBit j = if j < 32 then y.testBit j else x.testBit (j - 32) := by
  have := Nat.testBit_two_pow_mul_add x (i := 32) (b := y) (by omega) j
  rw [Nat.mul_comm x]; exact this

theorem left_digit (V n i : Nat) :
    (dg V ((i : Int) - ((n / 32 : Nat) : Int)) * 4294967296 + dg V ((i : Int) - ((n / 32 : Nat) : Int) - 1)) * 2 ^ (n % 32) % 18446744073709551616 / 4294967296 % 4294967296 = V * 2 ^ n / 4294967296 ^ i % 4294967296 := by
  refine Nat.eq_of_testBit_eq fun j => ?_
  rw [show (18446744073709551616 : Nat) = 2 ^ 64 by rfl, B_pow, show (4294967296 : Nat) = 2 ^ 32 by rfl, Nat.testBit_mod_two_pow, Nat.testBit_div_two_pow, Nat.testBit_mod_two_pow, Nat.testBit_mod_two_pow, Nat.testBit_div_two_pow,
    Nat.testBit_mul_two_pow, Nat.testBit_mul_two_pow]
  rw [show (2 : Nat) ^ 32 = 4294967296 by rfl, two_testBit (dg_lt _ _), dg_testBit, dg_testBit]
  by_cases hj : j < 32
  · simp only [hj, decide_true, Bool.true_and]
    rw [show decide (j + 32 < 64) = true by simp; omega, show decide (j + 32 ≥ n % 32) = true by simp; omega]
    simp only [Bool.true_and]
    by_cases h1 : j + 32 - n % 32 < 32
    · rw [if_pos h1]
      simp only [h1, decide_true, Bool.true_and]
      by_cases h2 : 0 ≤ (i : Int) - ((n / 32 : Nat) : Int) - 1
      · rw [show decide (j + 32 * i ≥ n) = true by simp; omega]
        simp only [h2, decide_true, Bool.true_and]
        congr 1; omega
      · rw [show decide (j + 32 * i ≥ n) = false by simp; omega, decide_eq_false h2]
        simp
    · rw [if_neg h1, show decide (j + 32 - n % 32 - 32 < 32) = true by simp; omega]
      simp only [Bool.true_and]
      by_cases h2 : 0 ≤ (i : Int) - ((n / 32 : Nat) : Int)
      · rw [show decide (j + 32 * i ≥ n) = true by simp; omega]
        simp only [h2, decide_true, Bool.true_and]
        congr 1; omega
      · rw [show decide (j + 32 * i ≥ n) = false by simp; omega, decide_eq_false h2]
        simp
  · simp [hj]

theorem right_digit (V n i : Nat) :
    (dg V (((i : Int) + ((n / 32 : Nat) : Int)) + 1) * 4294967296 + dg V ((i : Int) + ((n / 32 : Nat) : Int))) / 2 ^ (n % 32) % 4294967296 = V / 2 ^ n / 4294967296 ^ i % 4294967296 := by
  refine Nat.eq_of_testBit_eq fun j => ?_
  rw [B_pow, show (4294967296 : Nat) = 2 ^ 32 by rfl, Nat.testBit_mod_two_pow, Nat.testBit_div_two_pow, Nat.testBit_mod_two_pow, Nat.testBit_div_two_pow, Nat.testBit_div_two_pow]
  rw [show (2 : Nat) ^ 32 = 4294967296 by rfl, two_testBit (dg_lt _ _), dg_testBit, dg_testBit]
  by_cases hj : j < 32
  · simp only [hj, decide_true, Bool.true_and]
    by_cases h1 : j + n % 32 < 32
    · rw [if_pos h1]
      simp only [h1, decide_true, Bool.true_and]
      rw [show decide (0 ≤ (i : Int) + ((n / 32 : Nat) : Int)) = true by simp; omega]
      simp only [Bool.true_and]
      congr 1; omega
    · rw [if_neg h1, show decide (j + n % 32 - 32 < 32) = true by simp; omega, show decide (0 ≤ (i : Int) + ((n / 32 : Nat) : Int) + 1) = true by simp; omega]
      simp only [Bool.true_and]
      congr 1; omega
  · simp [hj]

theorem tdiv32 (n : Nat) : Int.tdiv (n : Int) 32 = ((n / 32 : Nat) : Int) := rfl
theorem tmod32 (n : Nat) : Int.tmod (n : Int) 32 = ((n % 32 : Nat) : Int) := rfl
theorem shl_u64 {x y : Nat} (hy : y < 64) : shl .u64 (x : Int) (y : Int) = ((x * 2 ^ y % 18446744073709551616 : Nat) : Int) := by
  unfold shl
  rw [Int.toNat_natCast, Nat.min_eq_left (show y ≤ IntKind.u64.bits by simp [IntKind.bits]; omega), IntKind.wrap_u64]
  simp
theorem shr_u64 {x y : Nat} (hy : y < 64) : shr .u64 (x : Int) (y : Int) = ((x / 2 ^ y : Nat) : Int) := by
  unfold shr
  rw [Int.toNat_natCast, Nat.min_eq_left (show y ≤ IntKind.u64.bits by simp [IntKind.bits]; omega)]
  simp

/-- A loop that lays digit by digit. -/
theorem lay_digit {out : List Int} {i N : Nat} (hi : i < out.length) (hz : ∀ j, i ≤ j → out.getD j 0 = 0) (hv : nv out = N % 4294967296 ^ i) :
    nv (out.set i ((N / 4294967296 ^ i % 4294967296 : Nat) : Int)) = N % 4294967296 ^ (i + 1) := by
  have h := nv_set out i ((N / 4294967296 ^ i % 4294967296 : Nat) : Int) hi
  rw [hz i (Nat.le_refl _), Int.toNat_natCast] at h
  rw [mod_step, ← hv]
  simpa using h
theorem zero_set {out : List Int} {i : Nat} {v : Int} (hi : i < out.length) (hz : ∀ j, i ≤ j → out.getD j 0 = 0) : ∀ j, i + 1 ≤ j → (out.set i v).getD j 0 = 0 := by
  intro j hj
  rw [getD_set _ _ _ _ hi, if_neg (by omega)]
  exact hz j (by omega)

theorem left_loop {a : List Int} (ha : Ok a) (la : a.length ≤ 100000) (n : Nat) (hn : n ≤ 100000) (L : Nat) (hL : L ≤ 1000000) (hf : nv a * 2 ^ n < 4294967296 ^ L) (d : Nat) :
    ∀ (i : Nat) (out : List Int), i + d = L → out.length = L → Ok out → (∀ j, i ≤ j → out.getD j 0 = 0) → nv out = (nv a * 2 ^ n) % 4294967296 ^ i →
      Ev (fun k => nat_Nat_Left.l0 k a (n : Int) out (L : Int) (i : Int)) (parts (nv a * 2 ^ n), 0) := by
  induction d with
  | zero =>
    intro i out hi hl ho hz hv
    obtain rfl : i = L := by omega
    refine Ev.succ ?_
    simp only [nat_Nat_Left.l0]
    refine Ev.neg (by omega) (Ev.bind (told_ev ho (by omega)) ?_)
    rw [hv, Nat.mod_eq_of_lt hf]
    exact Ev.done _
  | succ d ih =>
    intro i out hi hl ho hz hv
    refine Ev.succ ?_
    simp only [nat_Nat_Left.l0]
    rw [tdiv32, tmod32, w64 (x := ((n / 32 : Nat) : Int)) (by omega) (by omega), w64 (x := (i : Int) - ((n / 32 : Nat) : Int)) (by omega) (by omega), w64 (x := (i : Int) - ((n / 32 : Nat) : Int) - 1) (by omega) (by omega), w64 (x := (i : Int) + 1) (by omega) (by omega)]
    refine Ev.pos (by omega) (Ev.bind0 (part_eq _ _) (Ev.bind0 (part_eq _ _) (Ev.pos (by omega) (Ev.pos (by omega) (Ev.pos (by omega) ?_)))))
    rw [pt_dg ha, pt_dg ha, both_eq (dg_lt _ _) (dg_lt _ _), shl_u64 (by omega), Int.toNat_natCast, show (i : Int) + 1 = ((i + 1 : Nat) : Int) by omega]
    have e := left_digit (nv a) n i
    rw [show ((((dg (nv a) ((i : Int) - ((n / 32 : Nat) : Int)) * 4294967296 + dg (nv a) ((i : Int) - ((n / 32 : Nat) : Int) - 1)) * 2 ^ (n % 32) % 18446744073709551616 : Nat) : Int)) / 4294967296 % 4294967296 = (((dg (nv a) ((i : Int) - ((n / 32 : Nat) : Int)) * 4294967296 + dg (nv a) ((i : Int) - ((n / 32 : Nat) : Int) - 1)) * 2 ^ (n % 32) % 18446744073709551616 / 4294967296 % 4294967296 : Nat) : Int) by omega, e]
    exact ih (i + 1) _ (by omega) (by simp [hl]) (ok_set ho _ (by omega) (by omega)) (zero_set (by omega) hz) (lay_digit (by omega) hz hv)

theorem right_loop {a : List Int} (ha : Ok a) (la : a.length ≤ 100000) (n : Nat) (hn : n ≤ 10000000) (b : Bool) (d : Nat) :
    ∀ (i : Nat) (out : List Int), i + d = a.length → out.length = a.length → Ok out → (∀ j, i ≤ j → out.getD j 0 = 0) → nv out = (nv a / 2 ^ n) % 4294967296 ^ i →
      Ev (fun k => nat_Nat_Right.l0 k a (n : Int) b out (a.length : Int) (i : Int)) (parts (nv a / 2 ^ n), b) := by
  induction d with
  | zero =>
    intro i out hi hl ho hz hv
    obtain rfl : i = a.length := by omega
    refine Ev.succ ?_
    simp only [nat_Nat_Right.l0]
    refine Ev.neg (by omega) (Ev.bind (told_ev ho (by omega)) ?_)
    rw [hv, Nat.mod_eq_of_lt (Nat.lt_of_le_of_lt (Nat.div_le_self _ _) (nv_lt ha))]
    exact Ev.done _
  | succ d ih =>
    intro i out hi hl ho hz hv
    refine Ev.succ ?_
    simp only [nat_Nat_Right.l0]
    rw [tdiv32, tmod32, w64 (x := ((n / 32 : Nat) : Int)) (by omega) (by omega), w64 (x := (i : Int) + ((n / 32 : Nat) : Int)) (by omega) (by omega), w64 (x := (i : Int) + ((n / 32 : Nat) : Int) + 1) (by omega) (by omega), w64 (x := (i : Int) + 1) (by omega) (by omega)]
    refine Ev.pos (by omega) (Ev.bind0 (part_eq _ _) (Ev.bind0 (part_eq _ _) (Ev.pos (by omega) (Ev.pos (by omega) (Ev.pos (by omega) ?_)))))
    rw [pt_dg ha, pt_dg ha, both_eq (dg_lt _ _) (dg_lt _ _), shr_u64 (by omega), Int.toNat_natCast, show (i : Int) + 1 = ((i + 1 : Nat) : Int) by omega]
    have e := right_digit (nv a) n i
    rw [show ((((dg (nv a) ((i : Int) + ((n / 32 : Nat) : Int) + 1) * 4294967296 + dg (nv a) ((i : Int) + ((n / 32 : Nat) : Int))) / 2 ^ (n % 32) : Nat) : Int)) % 4294967296 = (((dg (nv a) ((i : Int) + ((n / 32 : Nat) : Int) + 1) * 4294967296 + dg (nv a) ((i : Int) + ((n / 32 : Nat) : Int))) / 2 ^ (n % 32) % 4294967296 : Nat) : Int) by omega, e]
    exact ih (i + 1) _ (by omega) (by simp [hl]) (ok_set ho _ (by omega) (by omega)) (zero_set (by omega) hz) (lay_digit (by omega) hz hv)

def leftR (a : Nat) (n : Int) : List Int × Int :=
  if n < 0 then ([], 1) else if a ≠ 0 ∧ (nlen a : Int) + n > 16384 then ([], 6) else (parts (a * 2 ^ n.toNat), 0)

theorem left_ev {a : List Int} (ha : Ok a) (la : a.length ≤ 100000) (n : Int) (h0 : -9223372036854775808 ≤ n) (h1 : n < 9223372036854775808) :
    Ev (fun k => nat_Nat_Left.f k a n) (leftR (nv a) n) := by
  unfold nat_Nat_Left.f leftR
  refine Ev.bind (len_ev ha (by omega)) ?_
  have hb := nlen_nv ha
  have hz := nlen_eq_zero (n := nv a)
  by_cases hn : n < 0
  · rw [if_pos hn]; exact Ev.pos hn (Ev.done _)
  · rw [if_neg hn]
    refine Ev.neg hn ?_
    have j0 : ∀ b : Bool, (b = true ↔ nv a ≠ 0 ∧ (nlen (nv a) : Int) + n > 16384) → Ev (fun k => nat_Nat_Left.j0 k a n (nlen (nv a) : Int) b) (if nv a ≠ 0 ∧ (nlen (nv a) : Int) + n > 16384 then (([] : List Int), (6 : Int)) else (parts (nv a * 2 ^ n.toNat), 0)) := by
      intro b hb2
      refine Ev.succ ?_
      simp only [nat_Nat_Left.j0]
      by_cases h : nv a ≠ 0 ∧ (nlen (nv a) : Int) + n > 16384
      · rw [if_pos h]; exact Ev.pos (hb2.2 h) (Ev.done _)
      · rw [if_neg h]
        refine Ev.neg (fun e => h (hb2.1 e)) ?_
        by_cases h2 : nv a = 0
        · rw [h2, nlen_zero, Nat.zero_mul, parts_zero]
          exact Ev.pos rfl (Ev.done _)
        · obtain ⟨m, rfl⟩ : ∃ m : Nat, n = m := ⟨n.toNat, by omega⟩
          rw [show (nlen (nv a) : Int) + (m : Int) = ((nlen (nv a) + m : Nat) : Int) by omega, w64 (x := ((nlen (nv a) + m : Nat) : Int)) (by omega) (by omega), tdiv32, w64 (x := (((nlen (nv a) + m) / 32 : Nat) : Int)) (by omega) (by omega), w64 (by omega) (by omega), show ((((nlen (nv a) + m) / 32 : Nat) : Int) + 1) = (((nlen (nv a) + m) / 32 + 1 : Nat) : Int) by omega]
          refine Ev.neg (by omega) (Ev.pos (by omega) (Ev.pos (by omega) (Ev.bind0 rfl ?_)))
          rw [Int.toNat_natCast, Int.toNat_natCast, List.length_replicate]
          refine left_loop ha la m (by omega) _ (by omega) ?_ _ 0 _ (Nat.zero_add _) (by simp) (ok_zeros _) (fun j _ => getD_zeros _ _) (by rw [nv_replicate]; simp [Nat.mod_one])
          have := lt_nlen (nv a * 2 ^ m)
          rw [nlen_mul_pow h2] at this
          rw [B_pow]
          exact Nat.lt_of_lt_of_le this (Nat.pow_le_pow_right (by omega) (by omega))
    by_cases h3 : (nlen (nv a) : Int) > 0
    · refine Ev.pos h3 ?_
      by_cases h4 : (nlen (nv a) : Int) > 16384
      · exact Ev.pos h4 (j0 true ⟨fun _ => ⟨by omega, by omega⟩, fun _ => rfl⟩)
      · rw [w64 (x := 16384 - (nlen (nv a) : Int)) (by omega) (by omega)]
        exact Ev.neg h4 (j0 _ ⟨fun h => by have := of_decide_eq_true h; exact ⟨by omega, by omega⟩, fun h => decide_eq_true (by omega)⟩)
    · exact Ev.neg h3 (j0 false ⟨fun h => (by cases h), fun h => by omega⟩)

def rightN (a : Nat) (n : Int) : Nat := a / 2 ^ n.toNat
def rightL (a : Nat) (n : Int) : Bool := decide (a % 2 ^ n.toNat ≠ 0)

theorem right_ev {a : List Int} (ha : Ok a) (la : a.length ≤ 100000) (n : Int) :
    Ev (fun k => nat_Nat_Right.f k a n) (parts (rightN (nv a) n), rightL (nv a) n) := by
  unfold nat_Nat_Right.f rightN rightL
  refine Ev.bind (len_ev ha (by omega)) ?_
  have hb := nlen_nv ha
  have hz := nlen_eq_zero (n := nv a)
  have hm : mn (mx n 0) (nlen (nv a) : Int) = ((min n.toNat (nlen (nv a)) : Nat) : Int) := by
    rw [show mx n 0 = ((n.toNat : Nat) : Int) by unfold mx; split <;> omega, mn_nat]
  rw [hm]
  have e1 : nv a / 2 ^ n.toNat = nv a / 2 ^ (min n.toNat (nlen (nv a))) := by
    by_cases h : n.toNat ≤ nlen (nv a)
    · rw [Nat.min_eq_left h]
    · rw [Nat.min_eq_right (by omega), Nat.div_eq_of_lt (lt_nlen _), Nat.div_eq_of_lt (nlen_le_iff.1 (by omega))]
  have j0 : ∀ b : Bool, Ev (fun k => nat_Nat_Right.j0 k a ((min n.toNat (nlen (nv a)) : Nat) : Int) b) (parts (nv a / 2 ^ n.toNat), b) := by
    intro b
    refine Ev.succ ?_
    simp only [nat_Nat_Right.j0]
    refine Ev.pos (by omega) (Ev.pos (by omega) (Ev.bind0 rfl ?_))
    rw [Int.toNat_natCast, List.length_replicate, e1]
    exact right_loop ha la _ (by omega) b a.length 0 _ (by omega) (by simp) (ok_zeros _) (fun j _ => getD_zeros _ _) (by rw [nv_replicate]; simp [Nat.mod_one])
  by_cases h : ((min n.toNat (nlen (nv a)) : Nat) : Int) > 0
  · refine Ev.pos h (Ev.bind (zeros_ev ha (by omega)) ?_)
    have h0 : nv a ≠ 0 := by omega
    have e2 : decide (((tz (nv a) : Nat) : Int) < ((min n.toNat (nlen (nv a)) : Nat) : Int)) = decide (nv a % 2 ^ n.toNat ≠ 0) := by
      have h1 := tz_lt_nlen h0
      have h2 := tz_mod h0 n.toNat
      apply decide_eq_decide.2
      omega
    rw [e2]
    exact j0 _
  · refine Ev.neg h ?_
    have e2 : decide (nv a % 2 ^ n.toNat ≠ 0) = false := by
      apply decide_eq_false
      by_cases h0 : nv a = 0
      · simp [h0]
      · rw [show n.toNat = 0 by omega]; simp [Nat.mod_one]
    rw [e2]
    exact j0 false

end Go.Proofs.Ytlaffgojgfdlnaa.N
set_option linter.unusedVariables false
namespace Go.Proofs.Ytlaffgojgfdlnaa.N
open Go.RowKit Go.Proofs.Ytlaffgojgfdlnaa.P Go.Proofs.YtlaffgojgfdlnaaW.PrintWords Go.Proofs.YtlaffgojgfdlnaaW.PrintMore Sk

/-! ### the document's answer for layer 1 -/
/-! Of -/
/-! Word -/
/-! Bit -/
/-! Cmp -/
/-! Add -/
/-! Sub -/
/-! Left, Right -/
/-! Mul -/
end Go.Proofs.Ytlaffgojgfdlnaa.N
set_option linter.unusedVariables false
namespace Go.Proofs.Ytlaffgojgfdlnaa.N
open Go.RowKit Go.Proofs.Ytlaffgojgfdlnaa.P Go.Proofs.YtlaffgojgfdlnaaW.PrintWords Go.Proofs.YtlaffgojgfdlnaaW.PrintMore Sk

/-! Parts -/
/-! Same -/
/-! Full -/
/-! Zeros -/
end Go.Proofs.Ytlaffgojgfdlnaa.N
set_option linter.unusedVariables false
namespace Go.Proofs.Ytlaffgojgfdlnaa.N
open Go.RowKit Go.Proofs.Ytlaffgojgfdlnaa.P Go.Proofs.YtlaffgojgfdlnaaW.PrintWords Go.Proofs.YtlaffgojgfdlnaaW.PrintMore Sk

theorem plen {n k : Nat} (h : nlen n ≤ 32 * k) : (parts n).length ≤ k := parts_length_le (by rw [B_pow]; exact nlen_le_iff.1 h)
theorem plen' {n k : Nat} (h : nlen n ≤ k) : (parts n).length ≤ k / 32 + 1 := plen (by omega)
theorem wf_u64 {x : Int} (h : (Lit.int .u64 x).wf = true) : 0 ≤ x ∧ x < 18446744073709551616 := by
  simp [Lit.wf, IntKind.min, IntKind.max, IntKind.signed, IntKind.bits] at h
  omega
theorem nlen_shift_le (n k : Nat) : nlen (n * 2 ^ k) ≤ nlen n + k := by
  by_cases h : n = 0
  · subst h; rw [Nat.zero_mul, nlen_zero]; omega
  · exact Nat.le_of_eq (nlen_mul_pow h k)
end Go.Proofs.Ytlaffgojgfdlnaa.N
