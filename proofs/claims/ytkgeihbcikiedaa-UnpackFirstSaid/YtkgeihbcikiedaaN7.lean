/- Numbers as lists of 32-bit parts and of bits, and what nat's functions and those of its reference compute on them, within the lengths that each theorem names. -/
import Derived.IntWalk
import Derived.Laws.Bits64b
import Derived.Laws.BitsAllLaws
import Derived.Test.YtkgeihbcikiedaaPx1
import Derived.Test.YtkgeihbcikiedaaPx6
import Derived.Test.YtkgeihbcikiedaaPx11
import Derived.Test.YtkgeihbcikiedaaPx0
namespace Go.Proofs.Ytkgeihbcikiedaa.Sk
def nv : List Int → Nat
 | [] => 0
 | x :: xs => x.toNat + 4294967296 * nv xs
def Ok (xs : List Int) : Prop := ∀ x, x ∈ xs → 0 ≤ x ∧ x < 4294967296
theorem Ok.nil : Ok [] := fun _ h => by cases h
theorem Ok.cons {x : Int} {xs : List Int} (h0 : 0 ≤ x) (h1 : x < 4294967296) (h : Ok xs) : Ok (x :: xs) := by
 intro y hy
 rcases List.mem_cons.1 hy with rfl | hy
 ·exact ⟨h0, h1⟩
 ·exact h y hy
theorem Ok.head {x : Int} {xs : List Int} (h : Ok (x :: xs)) : 0 ≤ x ∧ x < 4294967296 := h x (by simp)
theorem Ok.tail {x : Int} {xs : List Int} (h : Ok (x :: xs)) : Ok xs := fun y hy => h y (by simp [hy])
theorem Ok.app {xs ys : List Int} (h : Ok xs) (k : Ok ys) : Ok (xs ++ ys) := by
 intro y hy
 rcases List.mem_append.1 hy with hy | hy
 ·exact h y hy
 ·exact k y hy
theorem Ok.take {xs : List Int} (h : Ok xs) (n : Nat) : Ok (xs.take n) := fun y hy => h y (List.mem_of_mem_take hy)
theorem Ok.drop {xs : List Int} (h : Ok xs) (n : Nat) : Ok (xs.drop n) := fun y hy => h y (List.mem_of_mem_drop hy)
theorem Ok.get {xs : List Int} (h : Ok xs) (i : Nat) : 0 ≤ xs.getD i 0 ∧ xs.getD i 0 < 4294967296 := by
 rw [List.getD_eq_getElem?_getD]
 by_cases hi : i < xs.length
 ·rw [List.getElem?_eq_getElem hi]; exact h _ (List.getElem_mem hi)
 ·rw [List.getElem?_eq_none (by omega)]; simp
def parts (n : Nat) : List Int := if n = 0 then [] else ((n % 4294967296 : Nat) : Int) :: parts (n / 4294967296)
termination_by n
decreasing_by omega
theorem ku : parts 0 = [] := by rw [parts]; simp
theorem mR {n : Nat} (h : n ≠ 0) : parts n = ((n % 4294967296 : Nat) : Int) :: parts (n / 4294967296) := by rw [parts, if_neg h]
theorem ng (n : Nat) : nv (parts n) = n := by
 induction n using Nat.strongRecOn with
 | _ n ih =>
  by_cases h : n = 0
  ·subst h; rw [ku]; rfl
  ·rw [mR h, nv, ih _ (by omega)]; omega
theorem mZ (n : Nat) : Ok (parts n) := by
 induction n using Nat.strongRecOn with
 | _ n ih =>
  by_cases h : n = 0
  ·subst h; rw [ku]; exact Ok.nil
  ·rw [mR h]; exact Ok.cons (by omega) (by omega) (ih _ (by omega))
def Full (xs : List Int) : Prop := xs = [] ∨ xs.getD (xs.length - 1) 0 ≠ 0
theorem Full.tail {x : Int} {xs : List Int} (h : Full (x :: xs)) : Full xs := by
 cases xs with
 | nil => exact .inl rfl
 | cons y ys =>
  rcases h with h | h
  ·cases h
  ·refine .inr ?_
   simpa using h
theorem zM {xs : List Int} (h : Ok xs) (hf : Full xs) (hne : xs ≠ []) : nv xs ≠ 0 := by
 induction xs with
 | nil => exact absurd rfl hne
 | cons x xs ih =>
  rw [nv]
  cases xs with
  | nil =>
   rcases hf with hf | hf
   ·cases hf
   ·have := h.head; simp at hf; simp only [nv]; omega
  | cons y ys => have := ih h.tail hf.tail (by simp); omega
theorem PE {xs : List Int} (h : Ok xs) (hf : Full xs) : parts (nv xs) = xs := by
 induction xs with
 | nil => exact ku
 | cons x xs ih =>
  rw [mR (zM h hf (by simp)), nv]; have hx := h.head; rw [show (x.toNat + 4294967296 * nv xs) / 4294967296 = nv xs from by omega, ih h.tail hf.tail]
  congr 1
  omega
theorem I4 (n : Nat) : Full (parts n) := by
 induction n using Nat.strongRecOn with
 | _ n ih =>
  by_cases h : n = 0
  ·subst h; rw [ku]; exact .inl rfl
  ·rw [mR h]; refine .inr ?_
   by_cases h2 : n / 4294967296 = 0
   ·rw [h2, ku]; simp; omega
   ·rcases ih _ (show n / 4294967296 < n by omega) with h3 | h3
    ·exact absurd (by rw [← ng (n / 4294967296), h3]; rfl) h2
    ·rw [mR h2] at h3 ⊢; simpa using h3
theorem Np (xs ys : List Int) : nv (xs ++ ys) = nv xs + 4294967296 ^ xs.length * nv ys := by
 induction xs with
 | nil => simp [nv]
 | cons x xs ih => simp only [List.cons_append, nv, ih, List.length_cons, Nat.pow_succ]; grind
theorem FU {xs : List Int} (h : Ok xs) : nv xs < 4294967296 ^ xs.length := by
 induction xs with
 | nil => simp [nv]
 | cons x xs ih =>
  have := ih h.tail; have := h.head; simp only [nv, List.length_cons, Nat.pow_succ]; omega
theorem Dq {xs : List Int} (h : Ok xs) (i : Nat) : ((nv xs / 4294967296 ^ i % 4294967296 : Nat) : Int) = xs.getD i 0 := by
 induction xs generalizing i with
 | nil => simp [nv]
 | cons x xs ih =>
  have := h.head
  cases i with
  | zero => simp only [nv, List.getD_cons_zero, Nat.pow_zero, Nat.div_one]; omega
  | succ i =>
   rw [List.getD_cons_succ, ← ih h.tail i, nv, Nat.pow_succ, Nat.mul_comm (4294967296 ^ i), ← Nat.div_div_eq_div_mul]; rw [show (x.toNat + 4294967296 * nv xs) / 4294967296 = nv xs from by omega]
theorem I5 {xs ys : List Int} (h : Ok xs) (k : Ok ys) (e : ∀ i, xs.getD i 0 = ys.getD i 0) : nv xs = nv ys := by
 induction xs generalizing ys with
 | nil =>
  clear h
  induction ys with
  | nil => rfl
  | cons y ys ih =>
   have h0 := e 0; have := ih k.tail (fun i => by have := e (i + 1); simpa using this); simp at h0; simp only [nv] at this ⊢; omega
 | cons x xs ih =>
  have h0 := e 0
  cases ys with
  | nil =>
   have := ih h.tail (ys := []) Ok.nil (fun i => by have := e (i + 1); simpa using this); simp at h0; simp only [nv] at this ⊢; omega
  | cons y ys =>
   have := ih h.tail k.tail (fun i => by have := e (i + 1); simpa using this); simp at h0; rw [nv, nv, this, h0]
theorem Ud {xs : List Int} (h : Ok xs) (i : Nat) : nv (xs.take i) = nv xs % 4294967296 ^ i := by
 induction xs generalizing i with
 | nil => simp [nv]
 | cons x xs ih =>
  have := h.head
  cases i with
  | zero => simp [nv]; omega
  | succ i =>
   rw [List.take_succ_cons, nv, nv, ih h.tail, Nat.pow_succ]; rw [Nat.mul_comm (4294967296 ^ i) 4294967296, Nat.mod_mul]; rw [show (x.toNat + 4294967296 * nv xs) % 4294967296 = x.toNat from by omega, show (x.toNat + 4294967296 * nv xs) / 4294967296 = nv xs from by omega]
theorem sQ {xs : List Int} (h : Ok xs) (m : Nat) (hm : m ≤ xs.length) (hz : ∀ i, m ≤ i → xs.getD i 0 = 0) (hl : m = 0 ∨ xs.getD (m - 1) 0 ≠ 0) : xs.take m = parts (nv xs) := by
 have e : nv (xs.take m) = nv xs := by
  refine I5 (h.take m) h fun i => ?_
  by_cases hi : i < m
  ·simp [List.getD_eq_getElem?_getD, hi]
  ·rw [hz i (by omega)]; simp [List.getD_eq_getElem?_getD, List.getElem?_take, hi]
 rw [← e, PE (h.take m)]
 have hlen : (xs.take m).length = m := by simp; omega
 rcases hl with rfl | hl
 ·exact .inl (by simp)
 ·by_cases h0 : m = 0
  ·subst h0; exact .inl (by simp)
  ·refine .inr ?_; rw [hlen]
   simpa [List.getD_eq_getElem?_getD, List.getElem?_take, show m - 1 < m by omega] using hl
theorem gL {n k : Nat} (h : n < 4294967296 ^ k) : (parts n).length ≤ k := by
 induction k generalizing n with
 | zero => rw [Nat.pow_zero] at h; rw [show n = 0 by omega, ku]; simp
 | succ k ih =>
  by_cases h0 : n = 0
  ·subst h0; simp [ku]
  ·rw [mR h0, List.length_cons]; have := ih (n := n / 4294967296) (by rw [Nat.pow_succ] at h; omega); omega
def bv : List Bool → Nat
 | [] => 0
 | b :: bs => b.toNat + 2 * bv bs
def bts (n : Nat) : List Bool := if n = 0 then [] else (n % 2 == 1) :: bts (n / 2)
termination_by n
decreasing_by omega
theorem rO : bts 0 = [] := by rw [bts]; simp
theorem uU {n : Nat} (h : n ≠ 0) : bts n = (n % 2 == 1) :: bts (n / 2) := by rw [bts, if_neg h]
theorem xZ (n : Nat) : bv (bts n) = n := by
 induction n using Nat.strongRecOn with
 | _ n ih =>
  by_cases h : n = 0
  ·subst h; rw [rO]; rfl
  ·rw [uU h, bv, ih _ (by omega)]
   rcases Nat.mod_two_eq_zero_or_one n with e | e <;> simp [e] <;> omega
theorem vW (xs ys : List Bool) : bv (xs ++ ys) = bv xs + 2 ^ xs.length * bv ys := by
 induction xs with
 | nil => simp [bv]
 | cons x xs ih => simp only [List.cons_append, bv, ih, List.length_cons, Nat.pow_succ]; grind
theorem KN (xs : List Bool) : bv xs < 2 ^ xs.length := by
 induction xs with
 | nil => simp [bv]
 | cons x xs ih =>
  simp only [bv, List.length_cons, Nat.pow_succ]
  have : x.toNat ≤ 1 := by cases x <;> simp
  omega
theorem pu (xs : List Bool) (i : Nat) : xs.getD i false = (bv xs).testBit i := by
 induction xs generalizing i with
 | nil => simp [bv]
 | cons x xs ih =>
  cases i with
  | zero => cases x <;> simp [bv, Nat.testBit_zero]
  | succ i =>
   rw [List.getD_cons_succ, ih, bv, Nat.testBit_succ]
   congr 1
   cases x <;> simp <;> omega
def FW (xs : List Bool) : Prop := xs = [] ∨ xs.getD (xs.length - 1) false = true
theorem FW.tail {x : Bool} {xs : List Bool} (h : FW (x :: xs)) : FW xs := by
 cases xs with
 | nil => exact .inl rfl
 | cons y ys =>
  rcases h with h | h
  ·cases h
  ·refine .inr ?_
   simpa using h
theorem zN {xs : List Bool} (hf : FW xs) (hne : xs ≠ []) : bv xs ≠ 0 := by
 induction xs with
 | nil => exact absurd rfl hne
 | cons x xs ih =>
  rw [bv]
  cases xs with
  | nil =>
   rcases hf with hf | hf
   ·cases hf
   ·simp at hf; subst hf; simp [bv]
  | cons y ys => have := ih hf.tail (by simp); omega
theorem Ue {xs : List Bool} (hf : FW xs) : bts (bv xs) = xs := by
 induction xs with
 | nil => exact rO
 | cons x xs ih =>
  rw [uU (zN hf (by simp)), bv]; rw [show (x.toNat + 2 * bv xs) / 2 = bv xs from by cases x <;> simp <;> omega, ih hf.tail]
  congr 1
  cases x <;> simp <;> omega
def bT (n : Nat) : Nat := (bts n).length
theorem iw : bT 0 = 0 := by simp [bT, rO]
theorem FX {n : Nat} (h : n ≠ 0) : bT n = bT (n / 2) + 1 := by simp [bT, uU h]
theorem kH (n : Nat) : n < 2 ^ bT n := by have := KN (bts n); rwa [xZ] at this
theorem gm {n k : Nat} (h : n < 2 ^ k) : bT n ≤ k := by
 induction k generalizing n with
 | zero => rw [Nat.pow_zero] at h; rw [show n = 0 by omega, iw]; omega
 | succ k ih =>
  by_cases h0 : n = 0
  ·subst h0; rw [iw]; omega
  ·rw [FX h0]; have := ih (n := n / 2) (by rw [Nat.pow_succ] at h; omega); omega
theorem KZ {n k : Nat} (h : 2 ^ k ≤ n) : k < bT n := by
 by_cases hk : k < bT n
 ·exact hk
 ·have := kH n; have := Nat.pow_le_pow_right (n := 2) (by omega) (show bT n ≤ k by omega); omega
theorem fM {n k : Nat} : bT n ≤ k ↔ n < 2 ^ k := by
 constructor
 ·intro h; exact Nat.lt_of_lt_of_le (kH n) (Nat.pow_le_pow_right (by omega) h)
 ·exact gm
theorem qU {n k : Nat} : k < bT n ↔ 2 ^ k ≤ n := by
 have := fM (n := n) (k := k); omega
theorem kJ {n : Nat} : bT n = 0 ↔ n = 0 := by
 constructor
 ·intro h; have := kH n; rw [h] at this; omega
 ·rintro rfl; exact iw
theorem FY {n : Nat} (h : n ≠ 0) : 2 ^ (bT n - 1) ≤ n := by
 have : bT n ≠ 0 := fun e => h (kJ.1 e)
 exact qU.1 (by omega)
theorem K3 {n k : Nat} (h0 : 2 ^ k ≤ n) (h1 : n < 2 ^ (k + 1)) : bT n = k + 1 := by
 have := KZ h0; have := gm h1; omega
theorem MO {m n : Nat} (h : m ≤ n) : bT m ≤ bT n := gm (Nat.lt_of_le_of_lt h (kH n))
theorem kF {n : Nat} (h : n ≠ 0) (k : Nat) : bT (n * 2 ^ k) = bT n + k := by
 have h1 := FY h; have h2 := kH n
 have : bT n ≠ 0 := fun e => h (kJ.1 e)
 have e : bT n + k = (bT n - 1 + k) + 1 := by omega
 rw [e]; refine K3 ?_ ?_
 ·rw [Nat.pow_add]; exact Nat.mul_le_mul_right _ h1
 ·rw [show bT n - 1 + k + 1 = bT n + k by omega, Nat.pow_add]; exact Nat.mul_lt_mul_of_pos_right h2 (Nat.two_pow_pos k)
theorem uo (n k : Nat) : bT (n / 2 ^ k) = bT n - k := by
 by_cases h : bT n ≤ k
 ·rw [Nat.div_eq_of_lt (fM.1 h), iw]; omega
 ·have h0 : n ≠ 0 := by rintro rfl; rw [iw] at h; omega
  have e : bT n - k = (bT n - 1 - k) + 1 := by omega
  rw [e]; refine K3 ?_ ?_
  ·rw [Nat.le_div_iff_mul_le (Nat.two_pow_pos k), ← Nat.pow_add, show bT n - 1 - k + k = bT n - 1 by omega]; exact FY h0
  ·rw [Nat.div_lt_iff_lt_mul (Nat.two_pow_pos k), ← Nat.pow_add, show bT n - 1 - k + 1 + k = bT n by omega]; exact kH n
theorem Fg (m n : Nat) : bT (m + n) ≤ max (bT m) (bT n) + 1 := by
 refine gm ?_; have h1 := Nat.lt_of_lt_of_le (kH m) (Nat.pow_le_pow_right (n := 2) (by omega) (Nat.le_max_left (bT m) (bT n))); have h2 := Nat.lt_of_lt_of_le (kH n) (Nat.pow_le_pow_right (n := 2) (by omega) (Nat.le_max_right (bT m) (bT n))); rw [Nat.pow_succ]; omega
theorem FZ (m n : Nat) : bT (m * n) ≤ bT m + bT n := by
 refine gm ?_; rw [Nat.pow_add]; exact Nat.mul_lt_mul'' (kH m) (kH n)
theorem wG {xs : List Bool} (m : Nat) (hm : m ≤ xs.length) (hz : ∀ i, m ≤ i → xs.getD i false = false) (hl : m = 0 ∨ xs.getD (m - 1) false = true) : xs.take m = bts (bv xs) := by
 have e : bv (xs.take m) = bv xs := by
  refine Nat.eq_of_testBit_eq fun i => ?_
  rw [← pu, ← pu]
  by_cases hi : i < m
  ·simp [List.getD_eq_getElem?_getD, hi]
  ·rw [hz i (by omega)]; simp [List.getD_eq_getElem?_getD, List.getElem?_take, hi]
 rw [← e, Ue]
 have hlen : (xs.take m).length = m := by simp; omega
 rcases hl with rfl | hl
 ·exact .inl (by simp)
 ·by_cases h0 : m = 0
  ·subst h0; exact .inl (by simp)
  ·refine .inr ?_; rw [hlen]
   simpa [List.getD_eq_getElem?_getD, List.getElem?_take, show m - 1 < m by omega] using hl
theorem Fx (n i : Nat) : (bts n).getD i false = n.testBit i := by rw [pu, xZ]
theorem IM {n i : Nat} (h : bT n ≤ i) : n.testBit i = false := Nat.testBit_lt_two_pow (fM.1 h)
end Go.Proofs.Ytkgeihbcikiedaa.Sk
namespace Go.Proofs.Ytkgeihbcikiedaa.N
open Go.RowKit Go.Proofs.Ytkgeihbcikiedaa.P Go.Proofs.YtkgeihbcikiedaaW.PrintWords Go.Proofs.YtkgeihbcikiedaaW.PrintMore Sk
def Ev {α : Type} (g : Nat → Option α) (r : α) : Prop := ∃ K, ∀ k, K ≤ k → g k = some r
namespace Ev
variable {α β : Type}
theorem done (r : α) : Ev (fun _ => some r) r := ⟨0, fun _ _ => rfl⟩
theorem bind {g : Nat → Option α} {F : Nat → α → Option β} {a : α} {r : β} (h : Ev g a) (k : Ev (fun n => F n a) r) : Ev (fun n => (g n).bind (F n)) r := by
 obtain ⟨K, hK⟩ := h; obtain ⟨L, hL⟩ := k; refine ⟨max K L, fun n hn => ?_⟩; show (g n).bind (F n) = some r; rw [hK n (by omega)]; exact hL n (by omega)
theorem KM {g : Option α} {F : Nat → α → Option β} {a : α} {r : β} (h : g = some a) (k : Ev (fun n => F n a) r) : Ev (fun n => g.bind (F n)) r := by
 subst h; exact k
theorem succ {g : Nat → Option α} {r : α} (h : Ev (fun n => g (n + 1)) r) : Ev g r := by
 obtain ⟨K, hK⟩ := h; refine ⟨K + 1, fun n hn => ?_⟩
 obtain ⟨m, rfl⟩ : ∃ m, n = m + 1 := ⟨n - 1, by omega⟩
 exact hK m (by omega)
theorem ex {g : Nat → Option α} {r : α} (h : Ev g r) : ∃ k, g k = some r := by
 obtain ⟨K, hK⟩ := h; exact ⟨K, hK K (Nat.le_refl _)⟩
theorem pos {c : Prop} [Decidable c] {g g' : Nat → Option α} {r : α} (hc : c) (h : Ev g r) : Ev (fun n => if c then g n else g' n) r := by
 simpa only [if_pos hc] using h
theorem neg {c : Prop} [Decidable c] {g g' : Nat → Option α} {r : α} (hc : ¬ c) (h : Ev g' r) : Ev (fun n => if c then g n else g' n) r := by
 simpa only [if_neg hc] using h
end Ev
theorem w64 {x : Int} (h0 : -9223372036854775808 ≤ x) (h1 : x < 9223372036854775808) : wrap64 x = x := by unfold wrap64; omega
theorem aiZ {x : Int} (h0 : 0 ≤ x) (h1 : x < 18446744073709551616) : IntKind.u64.wrap x = x := by rw [IntKind.wrap_u64]; omega
def pt (l : List Int) (i : Int) : Int := if 0 ≤ i then l.getD i.toNat 0 else 0
theorem Y7 (l : List Int) (i : Nat) : pt l (i : Int) = l.getD i 0 := by simp [pt]
theorem xO {l : List Int} {i : Nat} (h : l.length ≤ i) : l.getD i 0 = 0 := by
 rw [List.getD_eq_getElem?_getD, List.getElem?_eq_none h]; rfl
theorem Nq {l : List Int} {i : Int} (h : (l.length : Int) ≤ i) : pt l i = 0 := by
 unfold pt; rw [if_pos (by omega)]; exact xO (by omega)
theorem Uf (l : List Int) (i : Int) : iZ.f l i = some (pt l i) := by
 unfold iZ.f
 by_cases h : i < 0
 ·rw [if_pos h, pt, if_neg (by omega)]
 ·rw [if_neg h]
  by_cases h1 : i ≥ (l.length : Int)
  ·rw [if_pos h1, Nq h1]
  ·rw [if_neg h1, if_pos (by omega), if_pos (by omega), pt, if_pos (by omega)]; rfl
theorem zt (i : Nat) : (4294967296 : Nat) ^ i = 2 ^ (32 * i) := by rw [Nat.pow_mul]
theorem zO {n L : Nat} (hL : (parts n).length = L + 1) : bT n = 32 * L + bT ((parts n).getD L 0).toNat ∧ ((parts n).getD L 0).toNat ≠ 0 := by
 have hlt := FU (mZ n); rw [ng, hL] at hlt; have hg := Dq (mZ n) L; rw [ng] at hg
 have e : n / 4294967296 ^ L < 4294967296 := by rw [Nat.div_lt_iff_lt_mul (Nat.pow_pos (show 0 < 4294967296 by decide)), Nat.mul_comm, ← Nat.pow_succ]; exact hlt
 rw [Nat.mod_eq_of_lt e] at hg
 have hne : n / 4294967296 ^ L ≠ 0 := by
  rcases I4 n with h | h
  ·rw [h] at hL; simp at hL
  ·rw [hL] at h; simp only [Nat.add_sub_cancel] at h; omega
 have ht : ((parts n).getD L 0).toNat = n / 4294967296 ^ L := by rw [← hg, Int.toNat_natCast]
 rw [ht]; refine ⟨?_, hne⟩; have h2 := uo n (32 * L); rw [← zt] at h2
 have h3 : bT (n / 4294967296 ^ L) ≠ 0 := fun h => hne (kJ.1 h)
 omega
def sg (m n : Nat) : Int := if m < n then -1 else if n < m then 1 else 0
theorem PG (n i : Nat) : n / 4294967296 ^ i = n / 4294967296 ^ i % 4294967296 + 4294967296 * (n / 4294967296 ^ (i + 1)) := by
 rw [Nat.pow_succ, ← Nat.div_div_eq_div_mul]; omega
theorem Za {l : List Int} (h : Ok l) (i : Nat) : pt l (i : Int) = ((nv l / 4294967296 ^ i % 4294967296 : Nat) : Int) := by rw [Y7, Dq h]
end Go.Proofs.Ytkgeihbcikiedaa.N
namespace Go.Proofs.Ytkgeihbcikiedaa.N
open Go.RowKit Go.Proofs.Ytkgeihbcikiedaa.P Go.Proofs.YtkgeihbcikiedaaW.PrintWords Go.Proofs.YtkgeihbcikiedaaW.PrintMore Sk
theorem Ph (l : List Int) (i j : Nat) (v : Int) (hi : i < l.length) : (l.set i v).getD j 0 = if i = j then v else l.getD j 0 := by
 simp only [List.getD_eq_getElem?_getD, List.getElem?_set]
 split
 ·rename_i h; subst h; simp
 ·rfl
theorem IK (n i : Nat) : (List.replicate n (0 : Int)).getD i 0 = 0 := by
 rw [List.getD_eq_getElem?_getD, List.getElem?_replicate]; split <;> rfl
theorem zP (n i : Nat) : n % 4294967296 ^ (i + 1) = n % 4294967296 ^ i + 4294967296 ^ i * (n / 4294967296 ^ i % 4294967296) := by
 rw [Nat.pow_succ, Nat.mod_mul]
theorem PH {l : List Int} (h : Ok l) {n : Nat} (hn : l.length ≤ n) : nv l < 4294967296 ^ n := Nat.lt_of_lt_of_le (FU h) (Nat.pow_le_pow_right (by omega) hn)
end Go.Proofs.Ytkgeihbcikiedaa.N
namespace Go.Proofs.Ytkgeihbcikiedaa.N
open Go.RowKit Go.Proofs.Ytkgeihbcikiedaa.P Go.Proofs.YtkgeihbcikiedaaW.PrintWords Go.Proofs.YtkgeihbcikiedaaW.PrintMore Sk
theorem iX (l : List Int) (i : Nat) : rd l (i : Int) = l.getD i 0 := by unfold rd; rw [Int.toNat_natCast]
theorem Tx {l : List Int} (h : Ok l) : bT (nv l) ≤ 32 * l.length := gm (by rw [← zt]; exact FU h)
end Go.Proofs.Ytkgeihbcikiedaa.N
namespace Go.Proofs.Ytkgeihbcikiedaa.N
open Go.RowKit Go.Proofs.Ytkgeihbcikiedaa.P Go.Proofs.YtkgeihbcikiedaaW.PrintWords Go.Proofs.YtkgeihbcikiedaaW.PrintMore Sk
theorem Ug {l : List Int} (h : Ok l) (i : Nat) : ∃ x : Nat, pt l (i : Int) = (x : Int) ∧ x < 4294967296 ∧ x = nv l / 4294967296 ^ i % 4294967296 :=
 ⟨_, Za h i, by omega, rfl⟩
theorem XN {l : List Int} (ho : Ok l) (i : Int) (h1 : i < 9223372036854775808) :
 jC.f l i = some (if 0 ≤ i ∧ (nv l).testBit i.toNat = true then 1 else 0) := by
 unfold jC.f
 by_cases h : i < 0
 ·rw [if_pos h, if_neg (by omega)]
 ·rw [if_neg h]
  obtain ⟨n, rfl⟩ : ∃ n : Nat, i = n := ⟨i.toNat, by omega⟩
  rw [show Int.tdiv (n : Int) 32 = ((n / 32 : Nat) : Int) from rfl, show Int.tmod (n : Int) 32 = ((n % 32 : Nat) : Int) from rfl, w64 (x := ((n / 32 : Nat) : Int)) (by omega) (by omega), Uf]; obtain ⟨x, h2, h3, h4⟩ := Ug ho (n / 32); rw [h2]; simp only [Option.bind_some]; rw [if_pos (by omega)]
  have e1 : shr .u32 (x : Int) ((n % 32 : Nat) : Int) = ((x / 2 ^ (n % 32) : Nat) : Int) := by
   unfold shr; rw [Int.toNat_natCast, Nat.min_eq_left (show n % 32 ≤ IntKind.u32.bits by simp [IntKind.bits]; omega)]
   simp
  have hq : x / 2 ^ (n % 32) < 4294967296 := Nat.lt_of_le_of_lt (Nat.div_le_self _ _) h3; rw [e1, show (1 : Int) = ((1 : Nat) : Int) from rfl, Go.u32_and_nat _ _ hq (by omega), Nat.and_one_is_mod, w64 (by omega) (by omega), Int.toNat_natCast]
  have e2 : (nv l).testBit n = decide (x / 2 ^ (n % 32) % 2 = 1) := by
   rw [h4, ← Nat.testBit_eq_decide_div_mod_eq, show (4294967296 : Nat) = 2 ^ 32 by rfl, Nat.testBit_mod_two_pow, ← Nat.pow_mul, Nat.testBit_div_two_pow]; rw [show n % 32 + 32 * (n / 32) = n by omega]
   simp; omega
  rw [e2]
  rcases Nat.mod_two_eq_zero_or_one (x / 2 ^ (n % 32)) with h5 | h5
  ·rw [h5, if_neg (by simp)]; rfl
  ·rw [h5, if_pos ⟨by omega, by simp⟩]
def tz (n : Nat) : Nat := if n = 0 then 0 else if n % 2 = 1 then 0 else tz (n / 2) + 1
termination_by n
decreasing_by omega
theorem Uh : tz 0 = 0 := by rw [tz]; simp
theorem Df {n : Nat} (h : n % 2 = 1) : tz n = 0 := by rw [tz, if_neg (by omega), if_pos h]
theorem yf {n : Nat} (h : n % 2 = 0) (h0 : n ≠ 0) : tz n = tz (n / 2) + 1 := by rw [tz, if_neg h0, if_neg (by omega)]
theorem I7 {n : Nat} (h : n ≠ 0) : tz (2 * n) = tz n + 1 := by rw [yf (by omega) (by omega)]; congr 2; omega
theorem tC {n : Nat} (h : n ≠ 0) (k : Nat) : tz (2 ^ k * n) = k + tz n := by
 induction k with
 | zero => simp
 | succ k ih =>
  rw [Nat.pow_succ, Nat.mul_comm (2 ^ k) 2, Nat.mul_assoc, I7 (Nat.mul_ne_zero (by have := Nat.two_pow_pos k; omega) h), ih]; omega
theorem um {n : Nat} (h : n ≠ 0) : ∃ m, n = 2 ^ tz n * m ∧ m % 2 = 1 := by
 induction n using Nat.strongRecOn with
 | _ n ih =>
  by_cases h1 : n % 2 = 1
  ·exact ⟨n, by rw [Df h1]; simp, h1⟩
  ·obtain ⟨m, e, hm⟩ := ih (n / 2) (by omega) (by omega); refine ⟨m, ?_, hm⟩; rw [yf (by omega) h, Nat.pow_succ, Nat.mul_comm (2 ^ tz (n / 2)) 2, Nat.mul_assoc, ← e]; omega
theorem pz {n : Nat} (h : n ≠ 0) : tz n < bT n := by
 obtain ⟨m, e, hm⟩ := um h; refine KZ (Nat.le_trans ?_ (Nat.le_of_eq e.symm)); exact Nat.le_mul_of_pos_right _ (by omega)
theorem O5 {n : Nat} (h : n ≠ 0) (k : Nat) : n % 2 ^ k = 0 ↔ k ≤ tz n := by
 obtain ⟨m, e, hm⟩ := um h
 constructor
 ·intro h0
  by_cases hk : k ≤ tz n
  ·exact hk
  ·exfalso; obtain ⟨q, hq⟩ := Nat.dvd_of_mod_eq_zero h0
   have e2 : 2 ^ tz n * m = 2 ^ tz n * (2 * (2 ^ (k - tz n - 1) * q)) := by
    rw [← e]
    have : 2 ^ k = 2 ^ tz n * (2 * 2 ^ (k - tz n - 1)) := by rw [← Nat.pow_succ', ← Nat.pow_add]; congr 1; omega
    conv => lhs; rw [hq, this]
    rw [Nat.mul_assoc, Nat.mul_assoc]
   have := Nat.eq_of_mul_eq_mul_left (Nat.two_pow_pos _) e2; omega
 ·intro hk; rw [e]
  have : 2 ^ tz n = 2 ^ k * 2 ^ (tz n - k) := by rw [← Nat.pow_add]; congr 1; omega
  rw [this, Nat.mul_assoc, Nat.mul_mod_right]
theorem I8 (l : List Int) (hl : l.length ≤ 1000000) (d : Nat) : ∀ i : Nat, i + d = l.length → (∀ j, j < i → l.getD j 0 = 0) →
 ∃ r : Int, Ev (fun k => gJ.l0 k l (i : Int)) r ∧ ((r = -1 ∧ ∀ j, l.getD j 0 = 0) ∨ ∃ j : Nat, r = (j : Int) ∧ j < l.length ∧ l.getD j 0 ≠ 0 ∧ ∀ m, m < j → l.getD m 0 = 0) := by
 induction d with
 | zero =>
  intro i hi hz; refine ⟨-1, Ev.succ ?_, .inl ⟨rfl, fun j => ?_⟩⟩
  ·simp only [gJ.l0]; exact Ev.neg (by omega) (Ev.done _)
  ·by_cases h : j < i
   ·exact hz j h
   ·exact xO (by omega)
 | succ d ih =>
  intro i hi hz
  by_cases h0 : l.getD i 0 = 0
  ·obtain ⟨r, h1, h2⟩ := ih (i + 1) (by omega) (fun j hj => by
    by_cases e : j = i
    ·subst e; exact h0
    ·exact hz j (by omega))
   refine ⟨r, Ev.succ ?_, h2⟩; simp only [gJ.l0]; rw [iX, w64 (by omega) (by omega)]; exact Ev.pos (by omega) (Ev.pos (by omega) (Ev.pos h0 h1))
  ·refine ⟨i, Ev.succ ?_, .inr ⟨i, rfl, by omega, h0, hz⟩⟩; simp only [gJ.l0]; rw [iX]; exact Ev.pos (by omega) (Ev.pos (by omega) (Ev.neg h0 (Ev.done _)))
theorem I9 (x : Nat) (h : x < 4294967296) (h0 : x ≠ 0) : ∀ n : Nat, n + tz x ≤ 100000000 → Ev (fun k => iM.l0 k (n : Int) (x : Int)) ((n + tz x : Nat) : Int) := by
 induction x using Nat.strongRecOn with
 | _ x ih =>
  intro n hn; refine Ev.succ ?_; simp only [iM.l0]; rw [show (1 : Int) = ((1 : Nat) : Int) from rfl, Go.u32_and_nat _ _ h (by omega), Nat.and_one_is_mod]
  by_cases h1 : x % 2 = 1
  ·rw [Df h1]; exact Ev.neg (by omega) (Ev.done _)
  ·have e := yf (n := x) (by omega) h0; refine Ev.pos (by omega) ?_; rw [w64 (by omega) (by omega), show (x : Int) / 2 = ((x / 2 : Nat) : Int) by omega, show (n : Int) + ((1 : Nat) : Int) = ((n + 1 : Nat) : Int) by omega, e, show n + (tz (x / 2) + 1) = n + 1 + tz (x / 2) by omega]; exact ih _ (by omega) (by omega) (by omega) _ (by omega)
theorem Zb {x r : Nat} (h : x < 4294967296) (h0 : x ≠ 0) : tz (x + 4294967296 * r) = tz x := by
 have h1 : tz x < 32 := Nat.lt_of_lt_of_le (pz h0) (gm (by omega)); obtain ⟨m, e, hm⟩ := um h0
 have e2 : x + 4294967296 * r = 2 ^ tz x * (m + 2 ^ (32 - tz x) * r) := by
  rw [Nat.mul_add, ← e, ← Nat.mul_assoc, ← Nat.pow_add, show tz x + (32 - tz x) = 32 by omega]
 have e3 : 2 ^ (32 - tz x) * r = 2 * (2 ^ (31 - tz x) * r) := by rw [show 32 - tz x = (31 - tz x) + 1 by omega, Nat.pow_succ', Nat.mul_assoc]
 rw [e2, tC (by omega), Df (n := m + 2 ^ (32 - tz x) * r) (by omega), Nat.add_zero]
theorem acP {l : List Int} (ho : Ok l) (hl : l.length ≤ 1000000) : Ev (fun k => iM.f k l) ((tz (nv l) : Nat) : Int) := by
 unfold iM.f; obtain ⟨r, h1, h2⟩ := I8 l hl l.length 0 (by omega) (fun j hj => by omega); refine Ev.bind (a := r) h1 ?_
 rcases h2 with ⟨rfl, h2⟩ | ⟨j, rfl, hj, h3, h4⟩
 ·refine Ev.pos (by omega) ?_
  have : nv l = 0 := by rw [I5 ho Ok.nil (fun i => by rw [h2 i]; rfl)]; rfl
  rw [this, Uh]; exact Ev.done _
 ·refine Ev.neg (by omega) (Ev.pos (by omega) (Ev.pos (by omega) ?_)); have g := ho.get j
  obtain ⟨x, hx⟩ : ∃ x : Nat, l.getD j 0 = (x : Int) := ⟨(l.getD j 0).toNat, by omega⟩
  have hx0 : x ≠ 0 := by omega
  have h32 : tz x < 32 := Nat.lt_of_lt_of_le (pz hx0) (gm (by omega))
  have e1 : nv (l.take j) = 0 := by
   rw [I5 (ho.take j) Ok.nil (fun i => ?_)]
   ·rfl
   ·by_cases hi : i < j
    ·have := h4 i hi
     simpa [List.getD_eq_getElem?_getD, hi] using this
    ·simp [List.getD_eq_getElem?_getD, List.getElem?_take, hi]
  have e2 : nv l = 4294967296 ^ j * (x + 4294967296 * (nv l / 4294967296 ^ (j + 1))) := by
   have m := zP (nv l) j; have d1 := Nat.div_add_mod (nv l) (4294967296 ^ j); have st := PG (nv l) j; have gx := Dq ho j; rw [Ud ho] at e1; rw [hx] at gx; rw [e1, Nat.add_zero] at d1
   have : nv l / 4294967296 ^ j % 4294967296 = x := by omega
   rw [this] at st; rw [← st]; exact d1.symm
  rw [iX, hx, w64 (by omega) (by omega), show (32 : Int) * (j : Int) = ((32 * j : Nat) : Int) by omega]
  have e3 : tz (nv l) = 32 * j + tz x := by
   conv => lhs; rw [e2, zt]
   rw [tC (by omega), Zb (by omega) hx0]
  rw [e3]; exact I9 x (by omega) hx0 _ (by omega)
end Go.Proofs.Ytkgeihbcikiedaa.N
namespace Go.Proofs.Ytkgeihbcikiedaa.N
set_option linter.unusedVariables false
open Go.RowKit Go.Proofs.Ytkgeihbcikiedaa.P Go.Proofs.YtkgeihbcikiedaaW.PrintWords Go.Proofs.YtkgeihbcikiedaaW.PrintMore Sk
end Go.Proofs.Ytkgeihbcikiedaa.N
set_option linter.unusedVariables false
namespace Go.Proofs.Ytkgeihbcikiedaa.N
open Go.RowKit Go.Proofs.Ytkgeihbcikiedaa.P Go.Proofs.YtkgeihbcikiedaaW.PrintWords Go.Proofs.YtkgeihbcikiedaaW.PrintMore Sk
theorem F5 {l : List Bool} {i : Nat} (h : l.length ≤ i) : l.getD i false = false := by
 rw [List.getD_eq_getElem?_getD, List.getElem?_eq_none h]; rfl
theorem Ui (l : List Bool) (i : Nat) : j4 false l (i : Int) = l.getD i false := by unfold j4; rw [Int.toNat_natCast]
theorem PL {l : List Bool} (hl : l.length ≤ 100000000) (m : Nat) (hm : m ≤ l.length) (hz : ∀ i, m ≤ i → l.getD i false = false) :
 Ev (fun k => bV.l0 k l (m : Int)) (bts (bv l)) := by
 induction m with
 | zero =>
  refine Ev.succ ?_; simp only [bV.l0]; refine Ev.neg (by omega) (Ev.pos (by omega) (Ev.pos (by omega) ?_)); rw [← wG 0 hm hz (.inl rfl)]; exact Ev.done _
 | succ m ih =>
  refine Ev.succ ?_; simp only [bV.l0]
  have e : wrap64 (((m + 1 : Nat) : Int) - 1) = (m : Int) := by rw [w64 (by omega) (by omega)]; omega
  rw [e, Ui]; refine Ev.pos (by omega) (Ev.pos (by omega) (Ev.pos (by omega) ?_))
  by_cases h0 : l.getD m false = true
  ·refine Ev.pos h0 (Ev.pos (by omega) (Ev.pos (by omega) ?_)); rw [← wG (m + 1) hm hz (.inr h0)]; exact Ev.done _
  ·refine Ev.neg h0 (ih (by omega) fun i hi => ?_)
   by_cases e : i = m
   ·subst e; simpa using h0
   ·exact hz i (by omega)
theorem Zc {l : List Bool} (hl : l.length ≤ 100000000) : Ev (fun k => bV.f k l) (bts (bv l)) :=
 PL hl l.length (Nat.le_refl _) fun _ hi => F5 hi
theorem Uj (l : List Bool) (b : Bool) : bv (l ++ [b]) = bv l + 2 ^ l.length * b.toNat := by rw [vW]; simp [bv]
theorem Nr {l : List Int} (i : Nat) (hi : i < 1000000) (r : List Bool)
 (cont : ∀ out : List Bool, out.length = 32 * (i + 1) → bv out = nv l % 4294967296 ^ (i + 1) → Ev (fun k => bG.l0 k l out ((i + 1 : Nat) : Int)) r) (d : Nat) :
 ∀ (j : Nat) (out : List Bool) (x : Nat), j + d = 32 → out.length = 32 * i + j → x < 2 ^ (32 - j) → bv out + 2 ^ (32 * i + j) * x = nv l % 4294967296 ^ (i + 1) →
  Ev (fun k => bG.l1 k l out (i : Int) (x : Int) (j : Int)) r := by
 induction d with
 | zero =>
  intro j out x hj hl hx hv
  obtain rfl : j = 32 := by omega
  refine Ev.succ ?_; simp only [bG.l1]; rw [w64 (x := (i : Int) + 1) (by omega) (by omega), show (i : Int) + 1 = ((i + 1 : Nat) : Int) by omega]; refine Ev.neg (by omega) (cont out (by omega) ?_)
  have : x = 0 := by rw [show 32 - 32 = 0 from rfl, Nat.pow_zero] at hx; omega
  subst this
  simpa using hv
 | succ d ih =>
  intro j out x hj hl hx hv; refine Ev.succ ?_; simp only [bG.l1]; have hx32 : x < 4294967296 := Nat.lt_of_lt_of_le hx (Nat.pow_le_pow_right (n := 2) (j := 32) (by omega) (by omega))
  rw [w64 (x := (j : Int) + 1) (by omega) (by omega), show (j : Int) + 1 = ((j + 1 : Nat) : Int) by omega, show Int.tdiv (x : Int) 2 = ((x / 2 : Nat) : Int) from rfl, show Int.tmod (x : Int) 2 = ((x % 2 : Nat) : Int) from rfl,
   show ((x / 2 : Nat) : Int) % 4294967296 = ((x / 2 : Nat) : Int) by omega]
  refine Ev.pos (by omega) (Ev.pos (by omega) (ih (j + 1) _ _ (by omega) (by simp [hl]; omega) ?_ ?_))
  ·have : 2 ^ (32 - j) = 2 * 2 ^ (32 - (j + 1)) := by rw [← Nat.pow_succ']; congr 1; omega
   omega
  ·have hb : ((((x % 2 : Nat) : Int) == 1 : Bool)).toNat = x % 2 := by
    rcases Nat.mod_two_eq_zero_or_one x with h | h <;> rw [h] <;> rfl
   rw [Uj, hb, hl, ← hv, ← Nat.add_assoc, Nat.pow_succ, Nat.mul_assoc, Nat.add_assoc, ← Nat.mul_add]
   congr 2; omega
theorem Ns {l : List Int} (ho : Ok l) (hl : l.length ≤ 100000) (d : Nat) : ∀ (i : Nat) (out : List Bool), i + d = l.length → out.length = 32 * i → bv out = nv l % 4294967296 ^ i →
 Ev (fun k => bG.l0 k l out (i : Int)) (bts (nv l)) := by
 induction d with
 | zero =>
  intro i out hi hlo hv
  obtain rfl : i = l.length := by omega
  refine Ev.succ ?_; simp only [bG.l0]; refine Ev.neg (by omega) (Ev.bind (Zc (by omega)) ?_); rw [hv, Nat.mod_eq_of_lt (FU ho)]; exact Ev.done _
 | succ d ih =>
  intro i out hi hlo hv; refine Ev.succ ?_; simp only [bG.l0]; have ea := Dq ho i; have ma := zP (nv l) i; rw [iX, ← ea]; refine Ev.pos (by omega) (Ev.pos (by omega) (Nr i (by omega) _ (fun out' h1 h2 => ih (i + 1) out' (by omega) h1 h2) 32 0 out _ rfl (by omega) (by omega) ?_)); rw [hv, ma, Nat.add_zero, ← zt]
theorem YO {l : List Int} (ho : Ok l) (hl : l.length ≤ 100000) : Ev (fun k => bG.f k l) (bts (nv l)) :=
 Ns ho hl l.length 0 [] (by omega) rfl (by simp [bv, Nat.mod_one])
theorem Ja (n : Nat) : ∀ (out : List Bool), n < 18446744073709551616 → out.length + bT n ≤ 1000 → Ev (fun k => bU.l0 k (n : Int) out) (out ++ bts n) := by
 induction n using Nat.strongRecOn with
 | _ n ih =>
  intro out hn ho; refine Ev.succ ?_; simp only [bU.l0]
  by_cases h : n = 0
  ·subst h; rw [rO, List.append_nil]; exact Ev.neg (by omega) (Ev.done _)
  ·have hp := FX h; rw [show Int.tdiv (n : Int) 2 = ((n / 2 : Nat) : Int) from rfl, show Int.tmod (n : Int) 2 = ((n % 2 : Nat) : Int) from rfl, aiZ (by omega) (by omega)]; refine Ev.pos (by omega) (Ev.pos (by omega) ?_); have := ih (n / 2) (by omega) (out ++ [((n % 2 : Nat) : Int) == 1]) (by omega) (by simp; omega); rw [uU h]
   have e : ((((n % 2 : Nat) : Int)) == 1) = (n % 2 == 1) := by rcases Nat.mod_two_eq_zero_or_one n with h | h <;> rw [h] <;> rfl
   rw [e] at this ⊢
   simpa using this
theorem Zd {n : Nat} (h : n < 18446744073709551616) : bT n ≤ 64 := gm h
theorem yZ {n : Int} (h0 : 0 ≤ n) (h1 : n < 18446744073709551616) : Ev (fun k => bU.f k n) (bts n.toNat) := by
 obtain ⟨m, rfl⟩ : ∃ m : Nat, n = m := ⟨n.toNat, by omega⟩
 have := Zd (n := m) (by omega); have h := Ja m [] (by omega) (by simp; omega); rw [List.nil_append] at h; rw [Int.toNat_natCast]; exact h
theorem Uk (l : List Bool) (i : Int) : fF.f l i = some (decide (0 ≤ i) && l.getD i.toNat false) := by
 unfold fF.f
 by_cases h : i ≥ 0
 ·rw [if_pos h]
  by_cases h1 : i < (l.length : Int)
  ·rw [if_pos h1, if_pos (by omega)]; simp [j4, h]
  ·rw [if_neg h1, F5 (by omega)]; simp
 ·rw [if_neg h, decide_eq_false (by omega)]; rfl
theorem PO (l : List Bool) (i : Nat) : fF.f l (i : Int) = some (l.getD i false) := by
 rw [Uk, decide_eq_true (by omega)]; simp
theorem Nu (n i : Nat) : n / 2 ^ i = (n.testBit i).toNat + 2 * (n / 2 ^ (i + 1)) := by
 rw [Nat.pow_succ, ← Nat.div_div_eq_div_mul, Nat.testBit_eq_decide_div_mod_eq]
 rcases Nat.mod_two_eq_zero_or_one (n / 2 ^ i) with h | h <;> simp [h] <;> omega
end Go.Proofs.Ytkgeihbcikiedaa.N
set_option linter.unusedVariables false
namespace Go.Proofs.Ytkgeihbcikiedaa.N
open Go.RowKit Go.Proofs.Ytkgeihbcikiedaa.P Go.Proofs.YtkgeihbcikiedaaW.PrintWords Go.Proofs.YtkgeihbcikiedaaW.PrintMore Sk
theorem Jb {xs ys : List Int} (h : Ok xs) (k : Ok ys) (hl : xs.length = ys.length) (e : nv xs = nv ys) : xs = ys := by
 induction xs generalizing ys with
 | nil => cases ys with
  | nil => rfl
  | cons y ys => simp at hl
 | cons x xs ih =>
  cases ys with
  | nil => simp at hl
  | cons y ys =>
   have hx := h.head; have hy := k.head; simp only [nv] at e; rw [ih h.tail k.tail (by simpa using hl) (by omega), show x = y by omega]
theorem Dr {n : Nat} (hn : bT n ≤ 10000000) (i : Nat) (hi : i < 1000000) (r : List Int) (acc : List Int) (hacc : acc.length ≤ 1000000)
 (cont : Ev (fun k => aN.l0 k (bts n) (acc ++ [((n / 4294967296 ^ i % 4294967296 : Nat) : Int)]) ((32 * (i + 1) : Nat) : Int)) r) (m : Nat) :
 ∀ (x : Nat), m ≤ 32 → x = n / 2 ^ (32 * i + m) % 2 ^ (32 - m) → Ev (fun k => aN.l1 k (bts n) acc ((32 * i : Nat) : Int) (x : Int) ((m : Int) - 1)) r := by
 induction m with
 | zero =>
  intro x hm hx; refine Ev.succ ?_; simp only [aN.l1]; rw [w64 (x := ((32 * i : Nat) : Int) + 32) (by omega) (by omega), show ((32 * i : Nat) : Int) + 32 = ((32 * (i + 1) : Nat) : Int) by omega]; refine Ev.neg (by omega) (Ev.pos (by omega) ?_); rw [hx, Nat.add_zero, ← zt]; exact cont
 | succ m ih =>
  intro x hm hx; refine Ev.succ ?_; simp only [aN.l1]; have hs := Nu n (32 * i + m)
  have hp : 2 ^ (32 - m) = 2 * 2 ^ (32 - (m + 1)) := by rw [← Nat.pow_succ']; congr 1; omega
  have hx32 : 2 ^ (32 - (m + 1)) ≤ 2 ^ 31 := Nat.pow_le_pow_right (by omega) (by omega)
  have hlt : x < 2 ^ (32 - (m + 1)) := by rw [hx]; exact Nat.mod_lt _ (Nat.two_pow_pos _)
  have hx2 : n / 2 ^ (32 * i + m) % 2 ^ (32 - m) = (n.testBit (32 * i + m)).toNat + 2 * x := by
   rw [hs, hp, hx, show 32 * i + m + 1 = 32 * i + (m + 1) by omega]
   have hb : (n.testBit (32 * i + m)).toNat < 2 := by cases n.testBit (32 * i + m) <;> simp
   rw [Nat.mod_mul, show ((n.testBit (32 * i + m)).toNat + 2 * (n / 2 ^ (32 * i + (m + 1)))) % 2 = (n.testBit (32 * i + m)).toNat by omega, show ((n.testBit (32 * i + m)).toNat + 2 * (n / 2 ^ (32 * i + (m + 1)))) / 2 = n / 2 ^ (32 * i + (m + 1)) by omega]
  rw [show ((m + 1 : Nat) : Int) - 1 = (m : Int) by omega, w64 (x := ((32 * i : Nat) : Int) + (m : Int)) (by omega) (by omega), w64 (x := (m : Int) - 1) (by omega) (by omega), show ((32 * i : Nat) : Int) + (m : Int) = ((32 * i + m : Nat) : Int) by omega]; refine Ev.pos (by omega) (Ev.KM (PO _ _) ?_); rw [Fx]; cases hb : n.testBit (32 * i + m)
  ·rw [hb] at hx2; simp only [Bool.toNat_false, Nat.zero_add] at hx2; rw [show (x : Int) * 2 % 4294967296 = ((2 * x : Nat) : Int) by omega]; exact Ev.neg (by simp) (ih _ (by omega) hx2.symm)
  ·rw [hb] at hx2; simp only [Bool.toNat_true] at hx2; rw [show ((x : Int) * 2 % 4294967296 + 1) % 4294967296 = ((1 + 2 * x : Nat) : Int) by omega]; exact Ev.pos rfl (ih _ (by omega) hx2.symm)
theorem F6 {n : Nat} (hn : bT n ≤ 10000000) (d : Nat) : ∀ (i : Nat) (acc : List Int), i + d = (parts n).length → acc.length = i → Ok acc → nv acc = n % 4294967296 ^ i →
 Ev (fun k => aN.l0 k (bts n) acc ((32 * i : Nat) : Int)) (parts n) := by
 have hl : (bts n).length = bT n := rfl
 have hpl : (parts n).length ≤ 312501 := by
  by_cases h : (parts n).length ≤ 312501
  ·exact h
  ·exfalso; have h0 := PH (mZ n) (n := (parts n).length) (Nat.le_refl _); have h1 := zO (n := n) (L := (parts n).length - 1) (by omega); omega
 induction d with
 | zero =>
  intro i acc hi hla ho hv
  obtain rfl : i = (parts n).length := by omega
  refine Ev.succ ?_; simp only [aN.l0]; have hlt := FU (mZ n); rw [ng] at hlt; have h2 : bT n ≤ 32 * (parts n).length := gm (by rw [← zt]; exact hlt); rw [Nat.mod_eq_of_lt hlt] at hv; have e : acc = parts n := Jb ho (mZ n) hla (by rw [hv, ng]); rw [e]; exact Ev.neg (by omega) (Ev.done _)
 | succ d ih =>
  intro i acc hi hla ho hv; refine Ev.succ ?_; simp only [aN.l0]; have h1 := zO (n := n) (L := (parts n).length - 1) (by omega)
  have h2 : bT ((parts n).getD ((parts n).length - 1) 0).toNat ≠ 0 := fun e => h1.2 (kJ.1 e)
  refine Ev.pos (by omega) ?_; have ai0 := Dr hn i (by omega) (parts n) acc (by omega) (ih (i + 1) _ (by omega) (by simp [hla]) (ho.app (Ok.cons (by omega) (by omega) Ok.nil)) ?_) 32 0 (by omega) (by simp [Nat.mod_one])
  ·simpa using ai0
  ·rw [Np, hla, zP, hv]; simp only [nv, Int.toNat_natCast, Nat.mul_zero, Nat.add_zero]
theorem oH {n : Nat} (hn : bT n ≤ 10000000) : Ev (fun k => aN.f k (bts n)) (parts n) :=
 F6 hn _ 0 [] (Nat.zero_add _) rfl Ok.nil (by simp [nv, Nat.mod_one])
theorem Jc {a b : List Int} (hl : a.length = b.length) (hn : a.length ≤ 100000000) (d : Nat) : ∀ i : Nat, i + d = a.length → (∀ j, j < i → a.getD j 0 = b.getD j 0) →
 Ev (fun k => cK.l0 k a b (i : Int)) (decide (a = b)) := by
 induction d with
 | zero =>
  intro i hi h; refine Ev.succ ?_; simp only [cK.l0]
  have e : a = b := by
   refine List.ext_getElem hl fun j h1 h2 => ?_
   have := h j (by omega)
   simpa [List.getD_eq_getElem?_getD, h1, h2] using this
  rw [decide_eq_true e]; exact Ev.neg (by omega) (Ev.done _)
 | succ d ih =>
  intro i hi h; refine Ev.succ ?_; simp only [cK.l0]; rw [iX, iX, w64 (by omega) (by omega), show (i : Int) + 1 = ((i + 1 : Nat) : Int) by omega]; refine Ev.pos (by omega) (Ev.pos (by omega) (Ev.pos (by omega) ?_))
  by_cases e : a.getD i 0 = b.getD i 0
  ·refine Ev.pos e (ih (i + 1) (by omega) fun j hj => ?_)
   by_cases e2 : j = i
   ·subst e2; exact e
   ·exact h j (by omega)
  ·rw [decide_eq_false (fun e2 => e (by rw [e2]))]; exact Ev.neg e (Ev.done _)
theorem PP {a b : List Int} (hn : a.length ≤ 100000000) : Ev (fun k => cK.f k a b) (decide (a = b)) := by
 unfold cK.f
 by_cases hl : a.length = b.length
 ·exact Ev.pos (by omega) (Jc hl hn a.length 0 (by omega) (fun j hj => by omega))
 ·rw [decide_eq_false (fun e => hl (by rw [e]))]; exact Ev.neg (by omega) (Ev.done _)
end Go.Proofs.Ytkgeihbcikiedaa.N
set_option linter.unusedVariables false
namespace Go.Proofs.Ytkgeihbcikiedaa.N
open Go.RowKit Go.Proofs.Ytkgeihbcikiedaa.P Go.Proofs.YtkgeihbcikiedaaW.PrintWords Go.Proofs.YtkgeihbcikiedaaW.PrintMore Sk
theorem wf_u64 {x : Int} (h : (Lit.int .u64 x).wf = true) : 0 ≤ x ∧ x < 18446744073709551616 := by
 simp [Lit.wf, IntKind.min, IntKind.max, IntKind.signed, IntKind.bits] at h; omega
theorem sF (n k : Nat) : bT (n * 2 ^ k) ≤ bT n + k := by
 by_cases h : n = 0
 ·subst h; rw [Nat.zero_mul, iw]; omega
 ·exact Nat.le_of_eq (kF h k)
end Go.Proofs.Ytkgeihbcikiedaa.N
