/- Numbers as lists of 32-bit parts and of bits, and what nat's functions and those of its reference compute on them, within the lengths that each theorem names. -/
import Derived.IntWalk
import Derived.Laws.Bits64b
import Derived.Laws.BitsAllLaws
import Derived.Test.YtkgeihbcikiedaaPx1
import Derived.Test.YtkgeihbcikiedaaPx6
import Derived.Test.YtkgeihbcikiedaaPx11
import Derived.Test.YtkgeihbcikiedaaPx12
import Derived.Test.YtkgeihbcikiedaaPx13
import Derived.Test.YtkgeihbcikiedaaPx0
namespace Go.Proofs.Ytkgeihbcikiedaa.Sk
def nv : List Int → Nat
 | [] => 0
 | x :: xs => x.toNat + 4294967296 * nv xs
def Ok (xs : List Int) : Prop := ∀ x, x ∈ xs → 0 ≤ x ∧ x < 4294967296
theorem Ok.nil : Ok [] := fun _ h => by cases h
theorem Ok.cons {x : Int} {xs : List Int} (h0 : 0 ≤ x) (h1 : x < 4294967296) (h : Ok xs) : Ok (x :: xs) := by
 intro y hy
 rcases List.mem_cons.1 hy with rfl | hy
 ·exact ⟨h0, h1⟩
 ·exact h y hy
theorem Ok.head {x : Int} {xs : List Int} (h : Ok (x :: xs)) : 0 ≤ x ∧ x < 4294967296 := h x (by simp)
theorem Ok.tail {x : Int} {xs : List Int} (h : Ok (x :: xs)) : Ok xs := fun y hy => h y (by simp [hy])
theorem Ok.app {xs ys : List Int} (h : Ok xs) (k : Ok ys) : Ok (xs ++ ys) := by
 intro y hy
 rcases List.mem_append.1 hy with hy | hy
 ·exact h y hy
 ·exact k y hy
theorem Ok.take {xs : List Int} (h : Ok xs) (n : Nat) : Ok (xs.take n) := fun y hy => h y (List.mem_of_mem_take hy)
theorem Ok.drop {xs : List Int} (h : Ok xs) (n : Nat) : Ok (xs.drop n) := fun y hy => h y (List.mem_of_mem_drop hy)
theorem Ok.get {xs : List Int} (h : Ok xs) (i : Nat) : 0 ≤ xs.getD i 0 ∧ xs.getD i 0 < 4294967296 := by
 rw [List.getD_eq_getElem?_getD]
 by_cases hi : i < xs.length
 ·rw [List.getElem?_eq_getElem hi]; exact h _ (List.getElem_mem hi)
 ·rw [List.getElem?_eq_none (by omega)]; simp
def parts (n : Nat) : List Int := if n = 0 then [] else ((n % 4294967296 : Nat) : Int) :: parts (n / 4294967296)
termination_by n
decreasing_by omega
theorem gZ : parts 0 = [] := by rw [parts]; simp
theorem lM {n : Nat} (h : n ≠ 0) : parts n = ((n % 4294967296 : Nat) : Int) :: parts (n / 4294967296) := by rw [parts, if_neg h]
theorem gH (n : Nat) : nv (parts n) = n := by
 induction n using Nat.strongRecOn with
 | _ n ih =>
  by_cases h : n = 0
  ·subst h; rw [gZ]; rfl
  ·rw [lM h, nv, ih _ (by omega)]; omega
theorem jW (n : Nat) : Ok (parts n) := by
 induction n using Nat.strongRecOn with
 | _ n ih =>
  by_cases h : n = 0
  ·subst h; rw [gZ]; exact Ok.nil
  ·rw [lM h]; exact Ok.cons (by omega) (by omega) (ih _ (by omega))
def Full (xs : List Int) : Prop := xs = [] ∨ xs.getD (xs.length - 1) 0 ≠ 0
theorem Full.tail {x : Int} {xs : List Int} (h : Full (x :: xs)) : Full xs := by
 cases xs with
 | nil => exact .inl rfl
 | cons y ys =>
  rcases h with h | h
  ·cases h
  ·refine .inr ?_
   simpa using h
theorem zz {xs : List Int} (h : Ok xs) (hf : Full xs) (hne : xs ≠ []) : nv xs ≠ 0 := by
 induction xs with
 | nil => exact absurd rfl hne
 | cons x xs ih =>
  rw [nv]
  cases xs with
  | nil =>
   rcases hf with hf | hf
   ·cases hf
   ·have := h.head; simp at hf; simp only [nv]; omega
  | cons y ys => have := ih h.tail hf.tail (by simp); omega
theorem Qh {xs : List Int} (h : Ok xs) (hf : Full xs) : parts (nv xs) = xs := by
 induction xs with
 | nil => exact gZ
 | cons x xs ih =>
  rw [lM (zz h hf (by simp)), nv]; have hx := h.head; rw [show (x.toNat + 4294967296 * nv xs) / 4294967296 = nv xs from by omega, ih h.tail hf.tail]
  congr 1
  omega
theorem Jp (n : Nat) : Full (parts n) := by
 induction n using Nat.strongRecOn with
 | _ n ih =>
  by_cases h : n = 0
  ·subst h; rw [gZ]; exact .inl rfl
  ·rw [lM h]; refine .inr ?_
   by_cases h2 : n / 4294967296 = 0
   ·rw [h2, gZ]; simp; omega
   ·rcases ih _ (show n / 4294967296 < n by omega) with h3 | h3
    ·exact absurd (by rw [← gH (n / 4294967296), h3]; rfl) h2
    ·rw [lM h2] at h3 ⊢; simpa using h3
theorem Oa (xs ys : List Int) : nv (xs ++ ys) = nv xs + 4294967296 ^ xs.length * nv ys := by
 induction xs with
 | nil => simp [nv]
 | cons x xs ih => simp only [List.cons_append, nv, ih, List.length_cons, Nat.pow_succ]; grind
theorem rZ {xs : List Int} (h : Ok xs) : nv xs < 4294967296 ^ xs.length := by
 induction xs with
 | nil => simp [nv]
 | cons x xs ih =>
  have := ih h.tail; have := h.head; simp only [nv, List.length_cons, Nat.pow_succ]; omega
theorem uR (n : Nat) : nv (List.replicate n 0) = 0 := by
 induction n with
 | zero => rfl
 | succ n ih => simp [List.replicate_succ, nv, ih]
theorem Dz {xs : List Int} (h : Ok xs) (i : Nat) : ((nv xs / 4294967296 ^ i % 4294967296 : Nat) : Int) = xs.getD i 0 := by
 induction xs generalizing i with
 | nil => simp [nv]
 | cons x xs ih =>
  have := h.head
  cases i with
  | zero => simp only [nv, List.getD_cons_zero, Nat.pow_zero, Nat.div_one]; omega
  | succ i =>
   rw [List.getD_cons_succ, ← ih h.tail i, nv, Nat.pow_succ, Nat.mul_comm (4294967296 ^ i), ← Nat.div_div_eq_div_mul]; rw [show (x.toNat + 4294967296 * nv xs) / 4294967296 = nv xs from by omega]
theorem Jq {xs ys : List Int} (h : Ok xs) (k : Ok ys) (e : ∀ i, xs.getD i 0 = ys.getD i 0) : nv xs = nv ys := by
 induction xs generalizing ys with
 | nil =>
  clear h
  induction ys with
  | nil => rfl
  | cons y ys ih =>
   have h0 := e 0; have := ih k.tail (fun i => by have := e (i + 1); simpa using this); simp at h0; simp only [nv] at this ⊢; omega
 | cons x xs ih =>
  have h0 := e 0
  cases ys with
  | nil =>
   have := ih h.tail (ys := []) Ok.nil (fun i => by have := e (i + 1); simpa using this); simp at h0; simp only [nv] at this ⊢; omega
  | cons y ys =>
   have := ih h.tail k.tail (fun i => by have := e (i + 1); simpa using this); simp at h0; rw [nv, nv, this, h0]
theorem Ub {xs : List Int} (h : Ok xs) (i : Nat) : nv (xs.take i) = nv xs % 4294967296 ^ i := by
 induction xs generalizing i with
 | nil => simp [nv]
 | cons x xs ih =>
  have := h.head
  cases i with
  | zero => simp [nv]; omega
  | succ i =>
   rw [List.take_succ_cons, nv, nv, ih h.tail, Nat.pow_succ]; rw [Nat.mul_comm (4294967296 ^ i) 4294967296, Nat.mod_mul]; rw [show (x.toNat + 4294967296 * nv xs) % 4294967296 = x.toNat from by omega, show (x.toNat + 4294967296 * nv xs) / 4294967296 = nv xs from by omega]
theorem zA {xs : List Int} (h : Ok xs) (m : Nat) (hm : m ≤ xs.length) (hz : ∀ i, m ≤ i → xs.getD i 0 = 0) (hl : m = 0 ∨ xs.getD (m - 1) 0 ≠ 0) : xs.take m = parts (nv xs) := by
 have e : nv (xs.take m) = nv xs := by
  refine Jq (h.take m) h fun i => ?_
  by_cases hi : i < m
  ·simp [List.getD_eq_getElem?_getD, hi]
  ·rw [hz i (by omega)]; simp [List.getD_eq_getElem?_getD, List.getElem?_take, hi]
 rw [← e, Qh (h.take m)]
 have hlen : (xs.take m).length = m := by simp; omega
 rcases hl with rfl | hl
 ·exact .inl (by simp)
 ·by_cases h0 : m = 0
  ·subst h0; exact .inl (by simp)
  ·refine .inr ?_; rw [hlen]
   simpa [List.getD_eq_getElem?_getD, List.getElem?_take, show m - 1 < m by omega] using hl
theorem fP {n k : Nat} (h : n < 4294967296 ^ k) : (parts n).length ≤ k := by
 induction k generalizing n with
 | zero => rw [Nat.pow_zero] at h; rw [show n = 0 by omega, gZ]; simp
 | succ k ih =>
  by_cases h0 : n = 0
  ·subst h0; simp [gZ]
  ·rw [lM h0, List.length_cons]; have := ih (n := n / 4294967296) (by rw [Nat.pow_succ] at h; omega); omega
theorem wL {n k : Nat} (h : 4294967296 ^ k ≤ n) : k < (parts n).length := by
 by_cases hk : k < (parts n).length
 ·exact hk
 ·have := rZ (jW n); rw [gH] at this; have := Nat.pow_le_pow_right (n := 4294967296) (by omega) (show (parts n).length ≤ k by omega); omega
def bv : List Bool → Nat
 | [] => 0
 | b :: bs => b.toNat + 2 * bv bs
def bts (n : Nat) : List Bool := if n = 0 then [] else (n % 2 == 1) :: bts (n / 2)
termination_by n
decreasing_by omega
theorem rE : bts 0 = [] := by rw [bts]; simp
theorem uS {n : Nat} (h : n ≠ 0) : bts n = (n % 2 == 1) :: bts (n / 2) := by rw [bts, if_neg h]
theorem LC (n : Nat) : bv (bts n) = n := by
 induction n using Nat.strongRecOn with
 | _ n ih =>
  by_cases h : n = 0
  ·subst h; rw [rE]; rfl
  ·rw [uS h, bv, ih _ (by omega)]
   rcases Nat.mod_two_eq_zero_or_one n with e | e <;> simp [e] <;> omega
theorem BR (xs ys : List Bool) : bv (xs ++ ys) = bv xs + 2 ^ xs.length * bv ys := by
 induction xs with
 | nil => simp [bv]
 | cons x xs ih => simp only [List.cons_append, bv, ih, List.length_cons, Nat.pow_succ]; grind
theorem WO (xs : List Bool) : bv xs < 2 ^ xs.length := by
 induction xs with
 | nil => simp [bv]
 | cons x xs ih =>
  simp only [bv, List.length_cons, Nat.pow_succ]
  have : x.toNat ≤ 1 := by cases x <;> simp
  omega
theorem pg (xs : List Bool) (i : Nat) : xs.getD i false = (bv xs).testBit i := by
 induction xs generalizing i with
 | nil => simp [bv]
 | cons x xs ih =>
  cases i with
  | zero => cases x <;> simp [bv, Nat.testBit_zero]
  | succ i =>
   rw [List.getD_cons_succ, ih, bv, Nat.testBit_succ]
   congr 1
   cases x <;> simp <;> omega
def Gc (xs : List Bool) : Prop := xs = [] ∨ xs.getD (xs.length - 1) false = true
theorem Gc.tail {x : Bool} {xs : List Bool} (h : Gc (x :: xs)) : Gc xs := by
 cases xs with
 | nil => exact .inl rfl
 | cons y ys =>
  rcases h with h | h
  ·cases h
  ·refine .inr ?_
   simpa using h
theorem zB {xs : List Bool} (hf : Gc xs) (hne : xs ≠ []) : bv xs ≠ 0 := by
 induction xs with
 | nil => exact absurd rfl hne
 | cons x xs ih =>
  rw [bv]
  cases xs with
  | nil =>
   rcases hf with hf | hf
   ·cases hf
   ·simp at hf; subst hf; simp [bv]
  | cons y ys => have := ih hf.tail (by simp); omega
theorem Uc {xs : List Bool} (hf : Gc xs) : bts (bv xs) = xs := by
 induction xs with
 | nil => exact rE
 | cons x xs ih =>
  rw [uS (zB hf (by simp)), bv]; rw [show (x.toNat + 2 * bv xs) / 2 = bv xs from by cases x <;> simp <;> omega, ih hf.tail]
  congr 1
  cases x <;> simp <;> omega
def bu (n : Nat) : Nat := (bts n).length
theorem gq : bu 0 = 0 := by simp [bu, rE]
theorem zC {n : Nat} (h : n ≠ 0) : bu n = bu (n / 2) + 1 := by simp [bu, uS h]
theorem j5 (n : Nat) : n < 2 ^ bu n := by have := WO (bts n); rwa [LC] at this
theorem iw {n k : Nat} (h : n < 2 ^ k) : bu n ≤ k := by
 induction k generalizing n with
 | zero => rw [Nat.pow_zero] at h; rw [show n = 0 by omega, gq]; omega
 | succ k ih =>
  by_cases h0 : n = 0
  ·subst h0; rw [gq]; omega
  ·rw [zC h0]; have := ih (n := n / 2) (by rw [Nat.pow_succ] at h; omega); omega
theorem LD {n k : Nat} (h : 2 ^ k ≤ n) : k < bu n := by
 by_cases hk : k < bu n
 ·exact hk
 ·have := j5 n; have := Nat.pow_le_pow_right (n := 2) (by omega) (show bu n ≤ k by omega); omega
theorem fE {n k : Nat} : bu n ≤ k ↔ n < 2 ^ k := by
 constructor
 ·intro h; exact Nat.lt_of_lt_of_le (j5 n) (Nat.pow_le_pow_right (by omega) h)
 ·exact iw
theorem qL {n k : Nat} : k < bu n ↔ 2 ^ k ≤ n := by
 have := fE (n := n) (k := k); omega
theorem iL {n : Nat} : bu n = 0 ↔ n = 0 := by
 constructor
 ·intro h; have := j5 n; rw [h] at this; omega
 ·rintro rfl; exact gq
theorem Gd {n : Nat} (h : n ≠ 0) : 2 ^ (bu n - 1) ≤ n := by
 have : bu n ≠ 0 := fun e => h (iL.1 e)
 exact qL.1 (by omega)
theorem LF {n k : Nat} (h0 : 2 ^ k ≤ n) (h1 : n < 2 ^ (k + 1)) : bu n = k + 1 := by
 have := LD h0; have := iw h1; omega
theorem BV {m n : Nat} (h : m ≤ n) : bu m ≤ bu n := iw (Nat.lt_of_le_of_lt h (j5 n))
theorem ja {n : Nat} (h : n ≠ 0) (k : Nat) : bu (n * 2 ^ k) = bu n + k := by
 have h1 := Gd h; have h2 := j5 n
 have : bu n ≠ 0 := fun e => h (iL.1 e)
 have e : bu n + k = (bu n - 1 + k) + 1 := by omega
 rw [e]; refine LF ?_ ?_
 ·rw [Nat.pow_add]; exact Nat.mul_le_mul_right _ h1
 ·rw [show bu n - 1 + k + 1 = bu n + k by omega, Nat.pow_add]; exact Nat.mul_lt_mul_of_pos_right h2 (Nat.two_pow_pos k)
theorem ul (n k : Nat) : bu (n / 2 ^ k) = bu n - k := by
 by_cases h : bu n ≤ k
 ·rw [Nat.div_eq_of_lt (fE.1 h), gq]; omega
 ·have h0 : n ≠ 0 := by rintro rfl; rw [gq] at h; omega
  have e : bu n - k = (bu n - 1 - k) + 1 := by omega
  rw [e]; refine LF ?_ ?_
  ·rw [Nat.le_div_iff_mul_le (Nat.two_pow_pos k), ← Nat.pow_add, show bu n - 1 - k + k = bu n - 1 by omega]; exact Gd h0
  ·rw [Nat.div_lt_iff_lt_mul (Nat.two_pow_pos k), ← Nat.pow_add, show bu n - 1 - k + 1 + k = bu n by omega]; exact j5 n
theorem FL (m n : Nat) : bu (m + n) ≤ max (bu m) (bu n) + 1 := by
 refine iw ?_; have h1 := Nat.lt_of_lt_of_le (j5 m) (Nat.pow_le_pow_right (n := 2) (by omega) (Nat.le_max_left (bu m) (bu n))); have h2 := Nat.lt_of_lt_of_le (j5 n) (Nat.pow_le_pow_right (n := 2) (by omega) (Nat.le_max_right (bu m) (bu n))); rw [Nat.pow_succ]; omega
theorem Gf (m n : Nat) : bu (m * n) ≤ bu m + bu n := by
 refine iw ?_; rw [Nat.pow_add]; exact Nat.mul_lt_mul'' (j5 m) (j5 n)
theorem wH {xs : List Bool} (m : Nat) (hm : m ≤ xs.length) (hz : ∀ i, m ≤ i → xs.getD i false = false) (hl : m = 0 ∨ xs.getD (m - 1) false = true) : xs.take m = bts (bv xs) := by
 have e : bv (xs.take m) = bv xs := by
  refine Nat.eq_of_testBit_eq fun i => ?_
  rw [← pg, ← pg]
  by_cases hi : i < m
  ·simp [List.getD_eq_getElem?_getD, hi]
  ·rw [hz i (by omega)]; simp [List.getD_eq_getElem?_getD, List.getElem?_take, hi]
 rw [← e, Uc]
 have hlen : (xs.take m).length = m := by simp; omega
 rcases hl with rfl | hl
 ·exact .inl (by simp)
 ·by_cases h0 : m = 0
  ·subst h0; exact .inl (by simp)
  ·refine .inr ?_; rw [hlen]
   simpa [List.getD_eq_getElem?_getD, List.getElem?_take, show m - 1 < m by omega] using hl
theorem FW (n i : Nat) : (bts n).getD i false = n.testBit i := by rw [pg, LC]
theorem Jd {n i : Nat} (h : bu n ≤ i) : n.testBit i = false := Nat.testBit_lt_two_pow (fE.1 h)
end Go.Proofs.Ytkgeihbcikiedaa.Sk
namespace Go.Proofs.Ytkgeihbcikiedaa.N
open Go.RowKit Go.Proofs.Ytkgeihbcikiedaa.P Go.Proofs.YtkgeihbcikiedaaW.PrintWords Go.Proofs.YtkgeihbcikiedaaW.PrintMore Sk
def Ev {α : Type} (g : Nat → Option α) (r : α) : Prop := ∃ K, ∀ k, K ≤ k → g k = some r
namespace Ev
variable {α β : Type}
theorem done (r : α) : Ev (fun _ => some r) r := ⟨0, fun _ _ => rfl⟩
theorem bind {g : Nat → Option α} {F : Nat → α → Option β} {a : α} {r : β} (h : Ev g a) (k : Ev (fun n => F n a) r) : Ev (fun n => (g n).bind (F n)) r := by
 obtain ⟨K, hK⟩ := h; obtain ⟨L, hL⟩ := k; refine ⟨max K L, fun n hn => ?_⟩; show (g n).bind (F n) = some r; rw [hK n (by omega)]; exact hL n (by omega)
theorem nu {g : Option α} {F : Nat → α → Option β} {a : α} {r : β} (h : g = some a) (k : Ev (fun n => F n a) r) : Ev (fun n => g.bind (F n)) r := by
 subst h; exact k
theorem succ {g : Nat → Option α} {r : α} (h : Ev (fun n => g (n + 1)) r) : Ev g r := by
 obtain ⟨K, hK⟩ := h; refine ⟨K + 1, fun n hn => ?_⟩
 obtain ⟨m, rfl⟩ : ∃ m, n = m + 1 := ⟨n - 1, by omega⟩
 exact hK m (by omega)
theorem ex {g : Nat → Option α} {r : α} (h : Ev g r) : ∃ k, g k = some r := by
 obtain ⟨K, hK⟩ := h; exact ⟨K, hK K (Nat.le_refl _)⟩
theorem pos {c : Prop} [Decidable c] {g g' : Nat → Option α} {r : α} (hc : c) (h : Ev g r) : Ev (fun n => if c then g n else g' n) r := by
 simpa only [if_pos hc] using h
theorem neg {c : Prop} [Decidable c] {g g' : Nat → Option α} {r : α} (hc : ¬ c) (h : Ev g' r) : Ev (fun n => if c then g n else g' n) r := by
 simpa only [if_neg hc] using h
end Ev
theorem w64 {x : Int} (h0 : -9223372036854775808 ≤ x) (h1 : x < 9223372036854775808) : wrap64 x = x := by unfold wrap64; omega
theorem Ud {x : Int} (h0 : 0 ≤ x) (h1 : x < 18446744073709551616) : IntKind.u64.wrap x = x := by rw [IntKind.wrap_u64]; omega
def pt (l : List Int) (i : Int) : Int := if 0 ≤ i then l.getD i.toNat 0 else 0
theorem Zc (l : List Int) (i : Nat) : pt l (i : Int) = l.getD i 0 := by simp [pt]
theorem DC {l : List Int} {i : Nat} (h : l.length ≤ i) : l.getD i 0 = 0 := by
 rw [List.getD_eq_getElem?_getD, List.getElem?_eq_none h]; rfl
theorem Ob {l : List Int} {i : Int} (h : (l.length : Int) ≤ i) : pt l i = 0 := by
 unfold pt; rw [if_pos (by omega)]; exact DC (by omega)
theorem nP (l : List Int) (i : Int) : bV.f l i = some (pt l i) := by
 unfold bV.f
 by_cases h : i < 0
 ·rw [if_pos h, pt, if_neg (by omega)]
 ·rw [if_neg h]
  by_cases h1 : i ≥ (l.length : Int)
  ·rw [if_pos h1, Ob h1]
  ·rw [if_neg h1, if_pos (by omega), if_pos (by omega), pt, if_pos (by omega)]; rfl
theorem Oc {l : List Int} (ho : Ok l) (hl : l.length ≤ 1000000) (m : Nat) (hm : m ≤ l.length) (hz : ∀ i, m ≤ i → l.getD i 0 = 0) :
 Ev (fun k => bZ.l0 k l (m : Int)) (parts (nv l)) := by
 induction m with
 | zero =>
  refine Ev.succ ?_; simp only [bZ.l0]; refine Ev.neg (by omega) (Ev.pos (by omega) (Ev.pos (by omega) ?_)); rw [← zA ho 0 hm hz (.inl rfl)]; exact Ev.done _
 | succ m ih =>
  refine Ev.succ ?_; simp only [bZ.l0]
  have e : wrap64 (((m + 1 : Nat) : Int) - 1) = (m : Int) := by rw [w64 (by omega) (by omega)]; omega
  rw [e]; refine Ev.pos (by omega) (Ev.pos (by omega) (Ev.pos (by omega) ?_))
  by_cases h0 : l.getD m 0 = 0
  ·refine Ev.pos (by simpa [rd] using h0) (ih (by omega) fun i hi => ?_)
   by_cases e : i = m
   ·subst e; exact h0
   ·exact hz i (by omega)
  ·refine Ev.neg (by simpa [rd] using h0) (Ev.pos (by omega) (Ev.pos (by omega) ?_)); rw [← zA ho (m + 1) hm hz (.inr h0)]; exact Ev.done _
theorem xO {l : List Int} (ho : Ok l) (hl : l.length ≤ 1000000) : Ev (fun k => bZ.f k l) (parts (nv l)) :=
 Oc ho hl l.length (Nat.le_refl _) fun _ hi => DC hi
theorem LG {l : List Int} (ho : Ok l) (hl : l.length ≤ 1000000) : Ev (fun k => mX.f k l) (parts (nv l)) := xO ho hl
theorem Od {l : List Int} (ho : Ok l) : (parts (nv l)).length ≤ l.length := fP (rZ ho)
theorem acO {n : Int} (h0 : 0 ≤ n) (h1 : n < 18446744073709551616) : Ev (fun k => zD.f k n) (parts n.toNat) := by
 unfold zD.f; refine Ev.bind (a := parts n.toNat) ?_ (Ev.done _)
 have e : nv [n % 4294967296, n / 4294967296 % 4294967296] = n.toNat := by simp only [nv]; omega
 have := xO (l := [n % 4294967296, n / 4294967296 % 4294967296]) (Ok.cons (by omega) (by omega) (Ok.cons (by omega) (by omega) Ok.nil)) (by simp)
 rwa [e] at this
theorem Qi (x : Nat) : ∀ n : Nat, n + bu x ≤ 100000000 → Ev (fun k => dV.l0 k (n : Int) (x : Int)) ((n + bu x : Nat) : Int) := by
 induction x using Nat.strongRecOn with
 | _ x ih =>
  intro n hn; refine Ev.succ ?_; simp only [dV.l0]
  by_cases h0 : x = 0
  ·subst h0; refine Ev.neg (by omega) ?_; rw [gq]; exact Ev.done _
  ·refine Ev.pos (by omega) ?_; have hx := zC h0; rw [w64 (by omega) (by omega), show (x : Int) / 2 = ((x / 2 : Nat) : Int) by omega, show (n : Int) + 1 = ((n + 1 : Nat) : Int) by omega, hx, show n + (bu (x / 2) + 1) = n + 1 + bu (x / 2) by omega]; exact ih _ (by omega) _ (by omega)
theorem qN (i : Nat) : (4294967296 : Nat) ^ i = 2 ^ (32 * i) := by rw [Nat.pow_mul]
theorem sV {n L : Nat} (hL : (parts n).length = L + 1) : bu n = 32 * L + bu ((parts n).getD L 0).toNat ∧ ((parts n).getD L 0).toNat ≠ 0 := by
 have hlt := rZ (jW n); rw [gH, hL] at hlt; have hg := Dz (jW n) L; rw [gH] at hg
 have e : n / 4294967296 ^ L < 4294967296 := by rw [Nat.div_lt_iff_lt_mul (Nat.pow_pos (show 0 < 4294967296 by decide)), Nat.mul_comm, ← Nat.pow_succ]; exact hlt
 rw [Nat.mod_eq_of_lt e] at hg
 have hne : n / 4294967296 ^ L ≠ 0 := by
  rcases Jp n with h | h
  ·rw [h] at hL; simp at hL
  ·rw [hL] at h; simp only [Nat.add_sub_cancel] at h; omega
 have ht : ((parts n).getD L 0).toNat = n / 4294967296 ^ L := by rw [← hg, Int.toNat_natCast]
 rw [ht]; refine ⟨?_, hne⟩; have h2 := ul n (32 * L); rw [← qN] at h2
 have h3 : bu (n / 4294967296 ^ L) ≠ 0 := fun h => hne (iL.1 h)
 omega
theorem Jr {l : List Int} (ho : Ok l) (hl : l.length ≤ 1000000) : Ev (fun k => dV.f k l) ((bu (nv l) : Nat) : Int) := by
 unfold dV.f; refine Ev.bind (xO ho hl) ?_; have hp := Od ho
 by_cases h0 : (parts (nv l)).length = 0
 ·refine Ev.pos (by omega) ?_
  have : nv l = 0 := by rw [← gH (nv l), List.eq_nil_of_length_eq_zero h0]; rfl
  rw [this, gq]; exact Ev.done _
 ·obtain ⟨L, hL⟩ : ∃ L, (parts (nv l)).length = L + 1 := ⟨(parts (nv l)).length - 1, by omega⟩
  refine Ev.neg (by omega) ?_; rw [hL, show wrap64 (((L + 1 : Nat) : Int) - 1) = (L : Int) by rw [w64 (by omega) (by omega)]; omega]; refine Ev.pos (by omega) (Ev.pos (by omega) ?_); obtain ⟨h1, h2⟩ := sV hL; have hb := (jW (nv l)).get L; rw [w64 (by omega) (by omega), show (32 : Int) * (L : Int) = ((32 * L : Nat) : Int) by omega, show rd (parts (nv l)) (L : Int) = (((parts (nv l)).getD L 0).toNat : Int) by simp only [rd, Int.toNat_natCast]; omega, h1]; have : bu ((parts (nv l)).getD L 0).toNat ≤ 32 := iw (by omega); exact Qi _ _ (by omega)
def sg (m n : Nat) : Int := if m < n then -1 else if n < m then 1 else 0
theorem acP {m n : Nat} (h : m < n) : sg m n = -1 := by simp [sg, h]
theorem WF {m n : Nat} (h : n < m) : sg m n = 1 := by simp [sg, h, show ¬ m < n by omega]
theorem acQ (m : Nat) : sg m m = 0 := by simp [sg]
theorem Tz (m n : Nat) : sg n m = - sg m n := by unfold sg; split <;> split <;> (try split) <;> omega
theorem Js (a b : Int) : fK.f a b = some (if a < b then -1 else if a > b then 1 else 0) := by
 unfold fK.f cu.f; simp only [bne_self_eq_false, Option.bind_some, Bool.false_eq_true, if_false]
 split
 ·rfl
 ·split <;> rfl
theorem zF (n i : Nat) : n / 4294967296 ^ i = n / 4294967296 ^ i % 4294967296 + 4294967296 * (n / 4294967296 ^ (i + 1)) := by
 rw [Nat.pow_succ, ← Nat.div_div_eq_div_mul]; omega
theorem DD {l : List Int} (h : Ok l) (i : Nat) : pt l (i : Int) = ((nv l / 4294967296 ^ i % 4294967296 : Nat) : Int) := by rw [Zc, Dz h]
theorem Qj {a b : List Int} (ha : Ok a) (hb : Ok b) (m : Nat) (hm : m ≤ 1000000) (he : nv a / 4294967296 ^ m = nv b / 4294967296 ^ m) :
 Ev (fun k => iM.l0 k a b ((m : Int) - 1)) (sg (nv a) (nv b)) := by
 induction m with
 | zero =>
  refine Ev.succ ?_; simp only [iM.l0]; refine Ev.neg (by omega) ?_; simp only [Nat.pow_zero, Nat.div_one] at he; rw [he, acQ]; exact Ev.done _
 | succ m ih =>
  refine Ev.succ ?_; simp only [iM.l0]; rw [show (((m + 1 : Nat) : Int) - 1) = (m : Int) by omega]; refine Ev.pos (by omega) (Ev.nu (nP _ _) (Ev.nu (nP _ _) (Ev.nu (Js _ _) ?_))); rw [DD ha, DD hb]; have ea := zF (nv a) m; have eb := zF (nv b) m; rw [w64 (by omega) (by omega)]
  by_cases h1 : nv a / 4294967296 ^ m % 4294967296 < nv b / 4294967296 ^ m % 4294967296
  ·rw [if_pos (by omega)]; refine Ev.neg (by omega) ?_; rw [acP (Nat.lt_of_div_lt_div (c := 4294967296 ^ m) (by omega))]; exact Ev.done _
  ·rw [if_neg (by omega)]
   by_cases h2 : nv b / 4294967296 ^ m % 4294967296 < nv a / 4294967296 ^ m % 4294967296
   ·rw [if_pos (by omega)]; refine Ev.neg (by omega) ?_; rw [WF (Nat.lt_of_div_lt_div (c := 4294967296 ^ m) (by omega))]; exact Ev.done _
   ·rw [if_neg (by omega)]; refine Ev.pos rfl (ih (by omega) (by omega))
theorem Zd (a b : Nat) : mx (a : Int) (b : Int) = ((max a b : Nat) : Int) := by unfold mx; split <;> omega
theorem Ze (a b : Nat) : mn (a : Int) (b : Int) = ((min a b : Nat) : Int) := by unfold mn; split <;> omega
theorem Zf {a b : List Int} (ha : Ok a) (hb : Ok b) (la : a.length ≤ 1000000) (lb : b.length ≤ 1000000) :
 Ev (fun k => iM.f k a b) (sg (nv a) (nv b)) := by
 unfold iM.f; rw [Zd, w64 (by omega) (by omega)]; refine Qj ha hb _ (by omega) ?_; rw [Nat.div_eq_of_lt (Nat.lt_of_lt_of_le (rZ ha) (Nat.pow_le_pow_right (by omega) (by omega))), Nat.div_eq_of_lt (Nat.lt_of_lt_of_le (rZ hb) (Nat.pow_le_pow_right (by omega) (by omega)))]
end Go.Proofs.Ytkgeihbcikiedaa.N
namespace Go.Proofs.Ytkgeihbcikiedaa.N
open Go.RowKit Go.Proofs.Ytkgeihbcikiedaa.P Go.Proofs.YtkgeihbcikiedaaW.PrintWords Go.Proofs.YtkgeihbcikiedaaW.PrintMore Sk
theorem Qk {l : List Int} (h : Ok l) (i : Nat) {v : Int} (h0 : 0 ≤ v) (h1 : v < 4294967296) : Ok (l.set i v) := by
 intro x hx
 rcases List.mem_or_eq_of_mem_set hx with hx | rfl
 ·exact h x hx
 ·exact ⟨h0, h1⟩
theorem FT (l : List Int) (i j : Nat) (v : Int) (hi : i < l.length) : (l.set i v).getD j 0 = if i = j then v else l.getD j 0 := by
 simp only [List.getD_eq_getElem?_getD, List.getElem?_set]
 split
 ·rename_i h; subst h; simp
 ·rfl
theorem Zg (l : List Int) : ∀ (i : Nat) (v : Int), i < l.length → nv (l.set i v) + 4294967296 ^ i * (l.getD i 0).toNat = nv l + 4294967296 ^ i * v.toNat := by
 induction l with
 | nil => intro i v hi; simp at hi
 | cons x xs ih =>
  intro i v hi
  cases i with
  | zero => simp [nv]; omega
  | succ i =>
   have := ih i v (by simpa using hi); simp only [List.set_cons_succ, nv, List.getD_cons_succ, Nat.pow_succ]
   have e1 : 4294967296 ^ i * 4294967296 * (xs.getD i 0).toNat = 4294967296 * (4294967296 ^ i * (xs.getD i 0).toNat) := by rw [Nat.mul_comm (4294967296 ^ i) 4294967296, Nat.mul_assoc]
   have e2 : 4294967296 ^ i * 4294967296 * v.toNat = 4294967296 * (4294967296 ^ i * v.toNat) := by rw [Nat.mul_comm (4294967296 ^ i) 4294967296, Nat.mul_assoc]
   rw [e1, e2]; omega
theorem Gg (n : Nat) : Ok (List.replicate n 0) := by
 intro x hx; obtain ⟨_, rfl⟩ := List.mem_replicate.1 hx; omega
theorem sQ (n i : Nat) : (List.replicate n (0 : Int)).getD i 0 = 0 := by
 rw [List.getD_eq_getElem?_getD, List.getElem?_replicate]; split <;> rfl
theorem uT (n i : Nat) : n % 4294967296 ^ (i + 1) = n % 4294967296 ^ i + 4294967296 ^ i * (n / 4294967296 ^ i % 4294967296) := by
 rw [Nat.pow_succ, Nat.mod_mul]
theorem Ql {l : List Int} (h : Ok l) {n : Nat} (hn : l.length ≤ n) : nv l < 4294967296 ^ n := Nat.lt_of_lt_of_le (rZ h) (Nat.pow_le_pow_right (by omega) hn)
end Go.Proofs.Ytkgeihbcikiedaa.N
namespace Go.Proofs.Ytkgeihbcikiedaa.N
open Go.RowKit Go.Proofs.Ytkgeihbcikiedaa.P Go.Proofs.YtkgeihbcikiedaaW.PrintWords Go.Proofs.YtkgeihbcikiedaaW.PrintMore Sk
theorem jK (l : List Int) (i : Nat) : rd l (i : Int) = l.getD i 0 := by unfold rd; rw [Int.toNat_natCast]
theorem xL {l : List Int} (h : Ok l) : bu (nv l) ≤ 32 * l.length := iw (by rw [← qN]; exact rZ h)
end Go.Proofs.Ytkgeihbcikiedaa.N
namespace Go.Proofs.Ytkgeihbcikiedaa.N
open Go.RowKit Go.Proofs.Ytkgeihbcikiedaa.P Go.Proofs.YtkgeihbcikiedaaW.PrintWords Go.Proofs.YtkgeihbcikiedaaW.PrintMore Sk
theorem DF {x y : Nat} (hx : x < 4294967296) (hy : y < 4294967296) :
 Go.bits .or .u64 (IntKind.u64.wrap (IntKind.u64.wrap (x : Int) * 4294967296)) (IntKind.u64.wrap (y : Int)) = ((x * 4294967296 + y : Nat) : Int) := by
 rw [Ud (x := (x : Int)) (by omega) (by omega), Ud (x := (y : Int)) (by omega) (by omega), Ud (by omega) (by omega), show (x : Int) * 4294967296 = ((x * 4294967296 : Nat) : Int) by omega,
  Go.bits_or_u64_nat _ _ (by omega) (by omega)]
 have := Nat.two_pow_add_eq_or_of_lt (i := 32) (b := y) (by omega) x; rw [show 2 ^ 32 * x = x * 4294967296 by omega] at this; rw [this]
theorem LH {l : List Int} (h : Ok l) (i : Nat) : ∃ x : Nat, pt l (i : Int) = (x : Int) ∧ x < 4294967296 ∧ x = nv l / 4294967296 ^ i % 4294967296 :=
 ⟨_, DD h i, by omega, rfl⟩
theorem Ue {l : List Int} (ho : Ok l) (hl : l.length ≤ 1000000) :
 Ev (fun k => kS.f k l) (if nv l < 18446744073709551616 then (((nv l : Nat) : Int), 0) else (0, 6)) := by
 unfold kS.f; refine Ev.bind (xO ho hl) ?_
 by_cases h : nv l < 18446744073709551616
 ·rw [if_pos h]; have := fP (n := nv l) (k := 2) (by omega); refine Ev.neg (by omega) (Ev.nu (nP _ _) (Ev.nu (nP _ _) ?_)); obtain ⟨x, h1, h2, h3⟩ := LH ho 1; obtain ⟨y, h4, h5, h6⟩ := LH ho 0; rw [show (1 : Int) = ((1 : Nat) : Int) by rfl, show (0 : Int) = ((0 : Nat) : Int) by rfl, h1, h4, DF h2 h5, show x * 4294967296 + y = nv l by omega]; exact Ev.done _
 ·rw [if_neg h]; have := wL (n := nv l) (k := 2) (by omega); exact Ev.pos (by omega) (Ev.done _)
def tz (n : Nat) : Nat := if n = 0 then 0 else if n % 2 = 1 then 0 else tz (n / 2) + 1
termination_by n
decreasing_by omega
theorem Uf : tz 0 = 0 := by rw [tz]; simp
theorem Dm {n : Nat} (h : n % 2 = 1) : tz n = 0 := by rw [tz, if_neg (by omega), if_pos h]
theorem xP {n : Nat} (h : n % 2 = 0) (h0 : n ≠ 0) : tz n = tz (n / 2) + 1 := by rw [tz, if_neg h0, if_neg (by omega)]
theorem Jt {n : Nat} (h : n ≠ 0) : tz (2 * n) = tz n + 1 := by rw [xP (by omega) (by omega)]; congr 2; omega
theorem sP {n : Nat} (h : n ≠ 0) (k : Nat) : tz (2 ^ k * n) = k + tz n := by
 induction k with
 | zero => simp
 | succ k ih =>
  rw [Nat.pow_succ, Nat.mul_comm (2 ^ k) 2, Nat.mul_assoc, Jt (Nat.mul_ne_zero (by have := Nat.two_pow_pos k; omega) h), ih]; omega
theorem uk {n : Nat} (h : n ≠ 0) : ∃ m, n = 2 ^ tz n * m ∧ m % 2 = 1 := by
 induction n using Nat.strongRecOn with
 | _ n ih =>
  by_cases h1 : n % 2 = 1
  ·exact ⟨n, by rw [Dm h1]; simp, h1⟩
  ·obtain ⟨m, e, hm⟩ := ih (n / 2) (by omega) (by omega); refine ⟨m, ?_, hm⟩; rw [xP (by omega) h, Nat.pow_succ, Nat.mul_comm (2 ^ tz (n / 2)) 2, Nat.mul_assoc, ← e]; omega
theorem jV {n : Nat} (h : n ≠ 0) : tz n < bu n := by
 obtain ⟨m, e, hm⟩ := uk h; refine LD (Nat.le_trans ?_ (Nat.le_of_eq e.symm)); exact Nat.le_mul_of_pos_right _ (by omega)
theorem I7 {n : Nat} (h : n ≠ 0) (k : Nat) : n % 2 ^ k = 0 ↔ k ≤ tz n := by
 obtain ⟨m, e, hm⟩ := uk h
 constructor
 ·intro h0
  by_cases hk : k ≤ tz n
  ·exact hk
  ·exfalso; obtain ⟨q, hq⟩ := Nat.dvd_of_mod_eq_zero h0
   have e2 : 2 ^ tz n * m = 2 ^ tz n * (2 * (2 ^ (k - tz n - 1) * q)) := by
    rw [← e]
    have : 2 ^ k = 2 ^ tz n * (2 * 2 ^ (k - tz n - 1)) := by rw [← Nat.pow_succ', ← Nat.pow_add]; congr 1; omega
    conv => lhs; rw [hq, this]
    rw [Nat.mul_assoc, Nat.mul_assoc]
   have := Nat.eq_of_mul_eq_mul_left (Nat.two_pow_pos _) e2; omega
 ·intro hk; rw [e]
  have : 2 ^ tz n = 2 ^ k * 2 ^ (tz n - k) := by rw [← Nat.pow_add]; congr 1; omega
  rw [this, Nat.mul_assoc, Nat.mul_mod_right]
theorem Ju (l : List Int) (hl : l.length ≤ 1000000) (d : Nat) : ∀ i : Nat, i + d = l.length → (∀ j, j < i → l.getD j 0 = 0) →
 ∃ r : Int, Ev (fun k => dW.l0 k l (i : Int)) r ∧ ((r = -1 ∧ ∀ j, l.getD j 0 = 0) ∨ ∃ j : Nat, r = (j : Int) ∧ j < l.length ∧ l.getD j 0 ≠ 0 ∧ ∀ m, m < j → l.getD m 0 = 0) := by
 induction d with
 | zero =>
  intro i hi hz; refine ⟨-1, Ev.succ ?_, .inl ⟨rfl, fun j => ?_⟩⟩
  ·simp only [dW.l0]; exact Ev.neg (by omega) (Ev.done _)
  ·by_cases h : j < i
   ·exact hz j h
   ·exact DC (by omega)
 | succ d ih =>
  intro i hi hz
  by_cases h0 : l.getD i 0 = 0
  ·obtain ⟨r, h1, h2⟩ := ih (i + 1) (by omega) (fun j hj => by
    by_cases e : j = i
    ·subst e; exact h0
    ·exact hz j (by omega))
   refine ⟨r, Ev.succ ?_, h2⟩; simp only [dW.l0]; rw [jK, w64 (by omega) (by omega)]; exact Ev.pos (by omega) (Ev.pos (by omega) (Ev.pos h0 h1))
  ·refine ⟨i, Ev.succ ?_, .inr ⟨i, rfl, by omega, h0, hz⟩⟩; simp only [dW.l0]; rw [jK]; exact Ev.pos (by omega) (Ev.pos (by omega) (Ev.neg h0 (Ev.done _)))
theorem Jv (x : Nat) (h : x < 4294967296) (h0 : x ≠ 0) : ∀ n : Nat, n + tz x ≤ 100000000 → Ev (fun k => dD.l0 k (n : Int) (x : Int)) ((n + tz x : Nat) : Int) := by
 induction x using Nat.strongRecOn with
 | _ x ih =>
  intro n hn; refine Ev.succ ?_; simp only [dD.l0]; rw [show (1 : Int) = ((1 : Nat) : Int) from rfl, Go.u32_and_nat _ _ h (by omega), Nat.and_one_is_mod]
  by_cases h1 : x % 2 = 1
  ·rw [Dm h1]; exact Ev.neg (by omega) (Ev.done _)
  ·have e := xP (n := x) (by omega) h0; refine Ev.pos (by omega) ?_; rw [w64 (by omega) (by omega), show (x : Int) / 2 = ((x / 2 : Nat) : Int) by omega, show (n : Int) + ((1 : Nat) : Int) = ((n + 1 : Nat) : Int) by omega, e, show n + (tz (x / 2) + 1) = n + 1 + tz (x / 2) by omega]; exact ih _ (by omega) (by omega) (by omega) _ (by omega)
theorem Zh {x r : Nat} (h : x < 4294967296) (h0 : x ≠ 0) : tz (x + 4294967296 * r) = tz x := by
 have h1 : tz x < 32 := Nat.lt_of_lt_of_le (jV h0) (iw (by omega)); obtain ⟨m, e, hm⟩ := uk h0
 have e2 : x + 4294967296 * r = 2 ^ tz x * (m + 2 ^ (32 - tz x) * r) := by
  rw [Nat.mul_add, ← e, ← Nat.mul_assoc, ← Nat.pow_add, show tz x + (32 - tz x) = 32 by omega]
 have e3 : 2 ^ (32 - tz x) * r = 2 * (2 ^ (31 - tz x) * r) := by rw [show 32 - tz x = (31 - tz x) + 1 by omega, Nat.pow_succ', Nat.mul_assoc]
 rw [e2, sP (by omega), Dm (n := m + 2 ^ (32 - tz x) * r) (by omega), Nat.add_zero]
theorem Gh {l : List Int} (ho : Ok l) (hl : l.length ≤ 1000000) : Ev (fun k => dD.f k l) ((tz (nv l) : Nat) : Int) := by
 unfold dD.f; obtain ⟨r, h1, h2⟩ := Ju l hl l.length 0 (by omega) (fun j hj => by omega); refine Ev.bind (a := r) h1 ?_
 rcases h2 with ⟨rfl, h2⟩ | ⟨j, rfl, hj, h3, h4⟩
 ·refine Ev.pos (by omega) ?_
  have : nv l = 0 := by rw [Jq ho Ok.nil (fun i => by rw [h2 i]; rfl)]; rfl
  rw [this, Uf]; exact Ev.done _
 ·refine Ev.neg (by omega) (Ev.pos (by omega) (Ev.pos (by omega) ?_)); have g := ho.get j
  obtain ⟨x, hx⟩ : ∃ x : Nat, l.getD j 0 = (x : Int) := ⟨(l.getD j 0).toNat, by omega⟩
  have hx0 : x ≠ 0 := by omega
  have h32 : tz x < 32 := Nat.lt_of_lt_of_le (jV hx0) (iw (by omega))
  have e1 : nv (l.take j) = 0 := by
   rw [Jq (ho.take j) Ok.nil (fun i => ?_)]
   ·rfl
   ·by_cases hi : i < j
    ·have := h4 i hi
     simpa [List.getD_eq_getElem?_getD, hi] using this
    ·simp [List.getD_eq_getElem?_getD, List.getElem?_take, hi]
  have e2 : nv l = 4294967296 ^ j * (x + 4294967296 * (nv l / 4294967296 ^ (j + 1))) := by
   have m := uT (nv l) j; have d1 := Nat.div_add_mod (nv l) (4294967296 ^ j); have st := zF (nv l) j; have gx := Dz ho j; rw [Ub ho] at e1; rw [hx] at gx; rw [e1, Nat.add_zero] at d1
   have : nv l / 4294967296 ^ j % 4294967296 = x := by omega
   rw [this] at st; rw [← st]; exact d1.symm
  rw [jK, hx, w64 (by omega) (by omega), show (32 : Int) * (j : Int) = ((32 * j : Nat) : Int) by omega]
  have e3 : tz (nv l) = 32 * j + tz x := by
   conv => lhs; rw [e2, qN]
   rw [sP (by omega), Zh (by omega) hx0]
  rw [e3]; exact Jv x (by omega) hx0 _ (by omega)
end Go.Proofs.Ytkgeihbcikiedaa.N
namespace Go.Proofs.Ytkgeihbcikiedaa.N
set_option linter.unusedVariables false
open Go.RowKit Go.Proofs.Ytkgeihbcikiedaa.P Go.Proofs.YtkgeihbcikiedaaW.PrintWords Go.Proofs.YtkgeihbcikiedaaW.PrintMore Sk
def dg (n : Nat) (i : Int) : Nat := if 0 ≤ i then n / 4294967296 ^ i.toNat % 4294967296 else 0
theorem Cc (n : Nat) (i : Int) : dg n i < 4294967296 := by unfold dg; split <;> omega
theorem LJ {l : List Int} (h : Ok l) (i : Int) : pt l i = ((dg (nv l) i : Nat) : Int) := by
 unfold dg
 by_cases hi : 0 ≤ i
 ·obtain ⟨j, rfl⟩ : ∃ j : Nat, i = j := ⟨i.toNat, by omega⟩
  rw [DD h, if_pos hi, Int.toNat_natCast]
 ·rw [pt, if_neg hi, if_neg hi]; rfl
theorem pF (n : Nat) (i : Int) (j : Nat) : (dg n i).testBit j = (decide (j < 32) && decide (0 ≤ i) && n.testBit (32 * i.toNat + j)) := by
 unfold dg
 by_cases hi : 0 ≤ i
 ·rw [if_pos hi, show (4294967296 : Nat) = 2 ^ 32 by rfl, Nat.testBit_mod_two_pow, ← Nat.pow_mul, Nat.testBit_div_two_pow, Nat.add_comm j]; simp [hi]
 ·rw [if_neg hi]; simp [hi]
theorem xg {x y : Nat} (hy : y < 4294967296) (j : Nat) : (x * 4294967296 + y).testBit j = if j < 32 then y.testBit j else x.testBit (j - 32) := by
 have := Nat.testBit_two_pow_mul_add x (i := 32) (b := y) (by omega) j; rw [Nat.mul_comm x]; exact this
theorem Jw (V n i : Nat) :
 (dg V ((i : Int) - ((n / 32 : Nat) : Int)) * 4294967296 + dg V ((i : Int) - ((n / 32 : Nat) : Int) - 1)) * 2 ^ (n % 32) % 18446744073709551616 / 4294967296 % 4294967296 = V * 2 ^ n / 4294967296 ^ i % 4294967296 := by
 refine Nat.eq_of_testBit_eq fun j => ?_
 rw [show (18446744073709551616 : Nat) = 2 ^ 64 by rfl, qN, show (4294967296 : Nat) = 2 ^ 32 by rfl, Nat.testBit_mod_two_pow, Nat.testBit_div_two_pow, Nat.testBit_mod_two_pow, Nat.testBit_mod_two_pow, Nat.testBit_div_two_pow,
  Nat.testBit_mul_two_pow, Nat.testBit_mul_two_pow]
 rw [show (2 : Nat) ^ 32 = 4294967296 by rfl, xg (Cc _ _), pF, pF]
 by_cases hj : j < 32
 ·simp only [hj, decide_true, Bool.true_and]; rw [show decide (j + 32 < 64) = true by simp; omega, show decide (j + 32 ≥ n % 32) = true by simp; omega]; simp only [Bool.true_and]
  by_cases h1 : j + 32 - n % 32 < 32
  ·rw [if_pos h1]; simp only [h1, decide_true, Bool.true_and]
   by_cases h2 : 0 ≤ (i : Int) - ((n / 32 : Nat) : Int) - 1
   ·rw [show decide (j + 32 * i ≥ n) = true by simp; omega]; simp only [h2, decide_true, Bool.true_and]
    congr 1; omega
   ·rw [show decide (j + 32 * i ≥ n) = false by simp; omega, decide_eq_false h2]
    simp
  ·rw [if_neg h1, show decide (j + 32 - n % 32 - 32 < 32) = true by simp; omega]; simp only [Bool.true_and]
   by_cases h2 : 0 ≤ (i : Int) - ((n / 32 : Nat) : Int)
   ·rw [show decide (j + 32 * i ≥ n) = true by simp; omega]; simp only [h2, decide_true, Bool.true_and]
    congr 1; omega
   ·rw [show decide (j + 32 * i ≥ n) = false by simp; omega, decide_eq_false h2]
    simp
 ·simp [hj]
theorem Gi (V n i : Nat) :
 (dg V (((i : Int) + ((n / 32 : Nat) : Int)) + 1) * 4294967296 + dg V ((i : Int) + ((n / 32 : Nat) : Int))) / 2 ^ (n % 32) % 4294967296 = V / 2 ^ n / 4294967296 ^ i % 4294967296 := by
 refine Nat.eq_of_testBit_eq fun j => ?_
 rw [qN, show (4294967296 : Nat) = 2 ^ 32 by rfl, Nat.testBit_mod_two_pow, Nat.testBit_div_two_pow, Nat.testBit_mod_two_pow, Nat.testBit_div_two_pow, Nat.testBit_div_two_pow]; rw [show (2 : Nat) ^ 32 = 4294967296 by rfl, xg (Cc _ _), pF, pF]
 by_cases hj : j < 32
 ·simp only [hj, decide_true, Bool.true_and]
  by_cases h1 : j + n % 32 < 32
  ·rw [if_pos h1]; simp only [h1, decide_true, Bool.true_and]; rw [show decide (0 ≤ (i : Int) + ((n / 32 : Nat) : Int)) = true by simp; omega]; simp only [Bool.true_and]
   congr 1; omega
  ·rw [if_neg h1, show decide (j + n % 32 - 32 < 32) = true by simp; omega, show decide (0 ≤ (i : Int) + ((n / 32 : Nat) : Int) + 1) = true by simp; omega]; simp only [Bool.true_and]
   congr 1; omega
 ·simp [hj]
theorem Jy (n : Nat) : Int.tdiv (n : Int) 32 = ((n / 32 : Nat) : Int) := rfl
theorem Qm (n : Nat) : Int.tmod (n : Int) 32 = ((n % 32 : Nat) : Int) := rfl
theorem Ug {x y : Nat} (hy : y < 64) : shl .u64 (x : Int) (y : Int) = ((x * 2 ^ y % 18446744073709551616 : Nat) : Int) := by
 unfold shl; rw [Int.toNat_natCast, Nat.min_eq_left (show y ≤ IntKind.u64.bits by simp [IntKind.bits]; omega), IntKind.wrap_u64]
 simp
theorem Uh {x y : Nat} (hy : y < 64) : shr .u64 (x : Int) (y : Int) = ((x / 2 ^ y : Nat) : Int) := by
 unfold shr; rw [Int.toNat_natCast, Nat.min_eq_left (show y ≤ IntKind.u64.bits by simp [IntKind.bits]; omega)]
 simp
theorem Ce {out : List Int} {i N : Nat} (hi : i < out.length) (hz : ∀ j, i ≤ j → out.getD j 0 = 0) (hv : nv out = N % 4294967296 ^ i) :
 nv (out.set i ((N / 4294967296 ^ i % 4294967296 : Nat) : Int)) = N % 4294967296 ^ (i + 1) := by
 have h := Zg out i ((N / 4294967296 ^ i % 4294967296 : Nat) : Int) hi; rw [hz i (Nat.le_refl _), Int.toNat_natCast] at h; rw [uT, ← hv]
 simpa using h
theorem Gj {out : List Int} {i : Nat} {v : Int} (hi : i < out.length) (hz : ∀ j, i ≤ j → out.getD j 0 = 0) : ∀ j, i + 1 ≤ j → (out.set i v).getD j 0 = 0 := by
 intro j hj; rw [FT _ _ _ _ hi, if_neg (by omega)]; exact hz j (by omega)
theorem Oe {a : List Int} (ha : Ok a) (la : a.length ≤ 100000) (n : Nat) (hn : n ≤ 100000) (L : Nat) (hL : L ≤ 1000000) (hf : nv a * 2 ^ n < 4294967296 ^ L) (d : Nat) :
 ∀ (i : Nat) (out : List Int), i + d = L → out.length = L → Ok out → (∀ j, i ≤ j → out.getD j 0 = 0) → nv out = (nv a * 2 ^ n) % 4294967296 ^ i →
  Ev (fun k => bL.l0 k a (n : Int) out (L : Int) (i : Int)) (parts (nv a * 2 ^ n), 0) := by
 induction d with
 | zero =>
  intro i out hi hl ho hz hv
  obtain rfl : i = L := by omega
  refine Ev.succ ?_; simp only [bL.l0]; refine Ev.neg (by omega) (Ev.bind (LG ho (by omega)) ?_); rw [hv, Nat.mod_eq_of_lt hf]; exact Ev.done _
 | succ d ih =>
  intro i out hi hl ho hz hv; refine Ev.succ ?_; simp only [bL.l0]; rw [Jy, Qm, w64 (x := ((n / 32 : Nat) : Int)) (by omega) (by omega), w64 (x := (i : Int) - ((n / 32 : Nat) : Int)) (by omega) (by omega), w64 (x := (i : Int) - ((n / 32 : Nat) : Int) - 1) (by omega) (by omega), w64 (x := (i : Int) + 1) (by omega) (by omega)]; refine Ev.pos (by omega) (Ev.nu (nP _ _) (Ev.nu (nP _ _) (Ev.pos (by omega) (Ev.pos (by omega) (Ev.pos (by omega) ?_))))); rw [LJ ha, LJ ha, DF (Cc _ _) (Cc _ _), Ug (by omega), Int.toNat_natCast, show (i : Int) + 1 = ((i + 1 : Nat) : Int) by omega]; have e := Jw (nv a) n i; rw [show ((((dg (nv a) ((i : Int) - ((n / 32 : Nat) : Int)) * 4294967296 + dg (nv a) ((i : Int) - ((n / 32 : Nat) : Int) - 1)) * 2 ^ (n % 32) % 18446744073709551616 : Nat) : Int)) / 4294967296 % 4294967296 = (((dg (nv a) ((i : Int) - ((n / 32 : Nat) : Int)) * 4294967296 + dg (nv a) ((i : Int) - ((n / 32 : Nat) : Int) - 1)) * 2 ^ (n % 32) % 18446744073709551616 / 4294967296 % 4294967296 : Nat) : Int) by omega, e]; exact ih (i + 1) _ (by omega) (by simp [hl]) (Qk ho _ (by omega) (by omega)) (Gj (by omega) hz) (Ce (by omega) hz hv)
theorem Jz {a : List Int} (ha : Ok a) (la : a.length ≤ 100000) (n : Nat) (hn : n ≤ 10000000) (b : Bool) (d : Nat) :
 ∀ (i : Nat) (out : List Int), i + d = a.length → out.length = a.length → Ok out → (∀ j, i ≤ j → out.getD j 0 = 0) → nv out = (nv a / 2 ^ n) % 4294967296 ^ i →
  Ev (fun k => bH.l0 k a (n : Int) b out (a.length : Int) (i : Int)) (parts (nv a / 2 ^ n), b) := by
 induction d with
 | zero =>
  intro i out hi hl ho hz hv
  obtain rfl : i = a.length := by omega
  refine Ev.succ ?_; simp only [bH.l0]; refine Ev.neg (by omega) (Ev.bind (LG ho (by omega)) ?_); rw [hv, Nat.mod_eq_of_lt (Nat.lt_of_le_of_lt (Nat.div_le_self _ _) (rZ ha))]; exact Ev.done _
 | succ d ih =>
  intro i out hi hl ho hz hv; refine Ev.succ ?_; simp only [bH.l0]; rw [Jy, Qm, w64 (x := ((n / 32 : Nat) : Int)) (by omega) (by omega), w64 (x := (i : Int) + ((n / 32 : Nat) : Int)) (by omega) (by omega), w64 (x := (i : Int) + ((n / 32 : Nat) : Int) + 1) (by omega) (by omega), w64 (x := (i : Int) + 1) (by omega) (by omega)]; refine Ev.pos (by omega) (Ev.nu (nP _ _) (Ev.nu (nP _ _) (Ev.pos (by omega) (Ev.pos (by omega) (Ev.pos (by omega) ?_))))); rw [LJ ha, LJ ha, DF (Cc _ _) (Cc _ _), Uh (by omega), Int.toNat_natCast, show (i : Int) + 1 = ((i + 1 : Nat) : Int) by omega]; have e := Gi (nv a) n i; rw [show ((((dg (nv a) ((i : Int) + ((n / 32 : Nat) : Int) + 1) * 4294967296 + dg (nv a) ((i : Int) + ((n / 32 : Nat) : Int))) / 2 ^ (n % 32) : Nat) : Int)) % 4294967296 = (((dg (nv a) ((i : Int) + ((n / 32 : Nat) : Int) + 1) * 4294967296 + dg (nv a) ((i : Int) + ((n / 32 : Nat) : Int))) / 2 ^ (n % 32) % 4294967296 : Nat) : Int) by omega, e]; exact ih (i + 1) _ (by omega) (by simp [hl]) (Qk ho _ (by omega) (by omega)) (Gj (by omega) hz) (Ce (by omega) hz hv)
def Gl (a : Nat) (n : Int) : List Int × Int :=
 if n < 0 then ([], 1) else if a ≠ 0 ∧ (bu a : Int) + n > 16384 then ([], 6) else (parts (a * 2 ^ n.toNat), 0)
theorem Ui {a : List Int} (ha : Ok a) (la : a.length ≤ 100000) (n : Int) (h0 : -9223372036854775808 ≤ n) (h1 : n < 9223372036854775808) :
 Ev (fun k => bL.f k a n) (Gl (nv a) n) := by
 unfold bL.f Gl; refine Ev.bind (Jr ha (by omega)) ?_; have hb := xL ha; have hz := iL (n := nv a)
 by_cases hn : n < 0
 ·rw [if_pos hn]; exact Ev.pos hn (Ev.done _)
 ·rw [if_neg hn]; refine Ev.neg hn ?_
  have j0 : ∀ b : Bool, (b = true ↔ nv a ≠ 0 ∧ (bu (nv a) : Int) + n > 16384) → Ev (fun k => bL.j0 k a n (bu (nv a) : Int) b) (if nv a ≠ 0 ∧ (bu (nv a) : Int) + n > 16384 then (([] : List Int), (6 : Int)) else (parts (nv a * 2 ^ n.toNat), 0)) := by
   intro b hb2; refine Ev.succ ?_; simp only [bL.j0]
   by_cases h : nv a ≠ 0 ∧ (bu (nv a) : Int) + n > 16384
   ·rw [if_pos h]; exact Ev.pos (hb2.2 h) (Ev.done _)
   ·rw [if_neg h]; refine Ev.neg (fun e => h (hb2.1 e)) ?_
    by_cases h2 : nv a = 0
    ·rw [h2, gq, Nat.zero_mul, gZ]; exact Ev.pos rfl (Ev.done _)
    ·obtain ⟨m, rfl⟩ : ∃ m : Nat, n = m := ⟨n.toNat, by omega⟩
     rw [show (bu (nv a) : Int) + (m : Int) = ((bu (nv a) + m : Nat) : Int) by omega, w64 (x := ((bu (nv a) + m : Nat) : Int)) (by omega) (by omega), Jy, w64 (x := (((bu (nv a) + m) / 32 : Nat) : Int)) (by omega) (by omega), w64 (by omega) (by omega), show ((((bu (nv a) + m) / 32 : Nat) : Int) + 1) = (((bu (nv a) + m) / 32 + 1 : Nat) : Int) by omega]; refine Ev.neg (by omega) (Ev.pos (by omega) (Ev.pos (by omega) (Ev.nu rfl ?_))); rw [Int.toNat_natCast, Int.toNat_natCast, List.length_replicate]; refine Oe ha la m (by omega) _ (by omega) ?_ _ 0 _ (Nat.zero_add _) (by simp) (Gg _) (fun j _ => sQ _ _) (by rw [uR]; simp [Nat.mod_one]); have := j5 (nv a * 2 ^ m); rw [ja h2] at this; rw [qN]; exact Nat.lt_of_lt_of_le this (Nat.pow_le_pow_right (by omega) (by omega))
  by_cases h3 : (bu (nv a) : Int) > 0
  ·refine Ev.pos h3 ?_
   by_cases h4 : (bu (nv a) : Int) > 16384
   ·exact Ev.pos h4 (j0 true ⟨fun _ => ⟨by omega, by omega⟩, fun _ => rfl⟩)
   ·rw [w64 (x := 16384 - (bu (nv a) : Int)) (by omega) (by omega)]; exact Ev.neg h4 (j0 _ ⟨fun h => by have := of_decide_eq_true h; exact ⟨by omega, by omega⟩, fun h => decide_eq_true (by omega)⟩)
  ·exact Ev.neg h3 (j0 false ⟨fun h => (by cases h), fun h => by omega⟩)
def zG (a : Nat) (n : Int) : Nat := a / 2 ^ n.toNat
def JA (a : Nat) (n : Int) : Bool := decide (a % 2 ^ n.toNat ≠ 0)
theorem Qn {a : List Int} (ha : Ok a) (la : a.length ≤ 100000) (n : Int) :
 Ev (fun k => bH.f k a n) (parts (zG (nv a) n), JA (nv a) n) := by
 unfold bH.f zG JA; refine Ev.bind (Jr ha (by omega)) ?_; have hb := xL ha; have hz := iL (n := nv a)
 have hm : mn (mx n 0) (bu (nv a) : Int) = ((min n.toNat (bu (nv a)) : Nat) : Int) := by
  rw [show mx n 0 = ((n.toNat : Nat) : Int) by unfold mx; split <;> omega, Ze]
 rw [hm]
 have e1 : nv a / 2 ^ n.toNat = nv a / 2 ^ (min n.toNat (bu (nv a))) := by
  by_cases h : n.toNat ≤ bu (nv a)
  ·rw [Nat.min_eq_left h]
  ·rw [Nat.min_eq_right (by omega), Nat.div_eq_of_lt (j5 _), Nat.div_eq_of_lt (fE.1 (by omega))]
 have j0 : ∀ b : Bool, Ev (fun k => bH.j0 k a ((min n.toNat (bu (nv a)) : Nat) : Int) b) (parts (nv a / 2 ^ n.toNat), b) := by
  intro b; refine Ev.succ ?_; simp only [bH.j0]; refine Ev.pos (by omega) (Ev.pos (by omega) (Ev.nu rfl ?_)); rw [Int.toNat_natCast, List.length_replicate, e1]; exact Jz ha la _ (by omega) b a.length 0 _ (by omega) (by simp) (Gg _) (fun j _ => sQ _ _) (by rw [uR]; simp [Nat.mod_one])
 by_cases h : ((min n.toNat (bu (nv a)) : Nat) : Int) > 0
 ·refine Ev.pos h (Ev.bind (Gh ha (by omega)) ?_)
  have h0 : nv a ≠ 0 := by omega
  have e2 : decide (((tz (nv a) : Nat) : Int) < ((min n.toNat (bu (nv a)) : Nat) : Int)) = decide (nv a % 2 ^ n.toNat ≠ 0) := by
   have h1 := jV h0; have h2 := I7 h0 n.toNat; apply decide_eq_decide.2; omega
  rw [e2]; exact j0 _
 ·refine Ev.neg h ?_
  have e2 : decide (nv a % 2 ^ n.toNat ≠ 0) = false := by
   apply decide_eq_false
   by_cases h0 : nv a = 0
   ·simp [h0]
   ·rw [show n.toNat = 0 by omega]; simp [Nat.mod_one]
  rw [e2]; exact j0 false
end Go.Proofs.Ytkgeihbcikiedaa.N
set_option linter.unusedVariables false
namespace Go.Proofs.Ytkgeihbcikiedaa.N
open Go.RowKit Go.Proofs.Ytkgeihbcikiedaa.P Go.Proofs.YtkgeihbcikiedaaW.PrintWords Go.Proofs.YtkgeihbcikiedaaW.PrintMore Sk
theorem Gm {l : List Bool} {i : Nat} (h : l.length ≤ i) : l.getD i false = false := by
 rw [List.getD_eq_getElem?_getD, List.getElem?_eq_none h]; rfl
theorem Uj (l : List Bool) (i : Nat) : lI false l (i : Int) = l.getD i false := by unfold lI; rw [Int.toNat_natCast]
theorem Qo {l : List Bool} (hl : l.length ≤ 100000000) (m : Nat) (hm : m ≤ l.length) (hz : ∀ i, m ≤ i → l.getD i false = false) :
 Ev (fun k => bX.l0 k l (m : Int)) (bts (bv l)) := by
 induction m with
 | zero =>
  refine Ev.succ ?_; simp only [bX.l0]; refine Ev.neg (by omega) (Ev.pos (by omega) (Ev.pos (by omega) ?_)); rw [← wH 0 hm hz (.inl rfl)]; exact Ev.done _
 | succ m ih =>
  refine Ev.succ ?_; simp only [bX.l0]
  have e : wrap64 (((m + 1 : Nat) : Int) - 1) = (m : Int) := by rw [w64 (by omega) (by omega)]; omega
  rw [e, Uj]; refine Ev.pos (by omega) (Ev.pos (by omega) (Ev.pos (by omega) ?_))
  by_cases h0 : l.getD m false = true
  ·refine Ev.pos h0 (Ev.pos (by omega) (Ev.pos (by omega) ?_)); rw [← wH (m + 1) hm hz (.inr h0)]; exact Ev.done _
  ·refine Ev.neg h0 (ih (by omega) fun i hi => ?_)
   by_cases e : i = m
   ·subst e; simpa using h0
   ·exact hz i (by omega)
theorem Zi {l : List Bool} (hl : l.length ≤ 100000000) : Ev (fun k => bX.f k l) (bts (bv l)) :=
 Qo hl l.length (Nat.le_refl _) fun _ hi => Gm hi
theorem Uk (l : List Bool) (b : Bool) : bv (l ++ [b]) = bv l + 2 ^ l.length * b.toNat := by rw [BR]; simp [bv]
theorem Og {l : List Int} (i : Nat) (hi : i < 1000000) (r : List Bool)
 (cont : ∀ out : List Bool, out.length = 32 * (i + 1) → bv out = nv l % 4294967296 ^ (i + 1) → Ev (fun k => bD.l0 k l out ((i + 1 : Nat) : Int)) r) (d : Nat) :
 ∀ (j : Nat) (out : List Bool) (x : Nat), j + d = 32 → out.length = 32 * i + j → x < 2 ^ (32 - j) → bv out + 2 ^ (32 * i + j) * x = nv l % 4294967296 ^ (i + 1) →
  Ev (fun k => bD.l1 k l out (i : Int) (x : Int) (j : Int)) r := by
 induction d with
 | zero =>
  intro j out x hj hl hx hv
  obtain rfl : j = 32 := by omega
  refine Ev.succ ?_; simp only [bD.l1]; rw [w64 (x := (i : Int) + 1) (by omega) (by omega), show (i : Int) + 1 = ((i + 1 : Nat) : Int) by omega]; refine Ev.neg (by omega) (cont out (by omega) ?_)
  have : x = 0 := by rw [show 32 - 32 = 0 from rfl, Nat.pow_zero] at hx; omega
  subst this
  simpa using hv
 | succ d ih =>
  intro j out x hj hl hx hv; refine Ev.succ ?_; simp only [bD.l1]; have hx32 : x < 4294967296 := Nat.lt_of_lt_of_le hx (Nat.pow_le_pow_right (n := 2) (j := 32) (by omega) (by omega))
  rw [w64 (x := (j : Int) + 1) (by omega) (by omega), show (j : Int) + 1 = ((j + 1 : Nat) : Int) by omega, show Int.tdiv (x : Int) 2 = ((x / 2 : Nat) : Int) from rfl, show Int.tmod (x : Int) 2 = ((x % 2 : Nat) : Int) from rfl,
   show ((x / 2 : Nat) : Int) % 4294967296 = ((x / 2 : Nat) : Int) by omega]
  refine Ev.pos (by omega) (Ev.pos (by omega) (ih (j + 1) _ _ (by omega) (by simp [hl]; omega) ?_ ?_))
  ·have : 2 ^ (32 - j) = 2 * 2 ^ (32 - (j + 1)) := by rw [← Nat.pow_succ']; congr 1; omega
   omega
  ·have hb : ((((x % 2 : Nat) : Int) == 1 : Bool)).toNat = x % 2 := by
    rcases Nat.mod_two_eq_zero_or_one x with h | h <;> rw [h] <;> rfl
   rw [Uk, hb, hl, ← hv, ← Nat.add_assoc, Nat.pow_succ, Nat.mul_assoc, Nat.add_assoc, ← Nat.mul_add]
   congr 2; omega
theorem Oh {l : List Int} (ho : Ok l) (hl : l.length ≤ 100000) (d : Nat) : ∀ (i : Nat) (out : List Bool), i + d = l.length → out.length = 32 * i → bv out = nv l % 4294967296 ^ i →
 Ev (fun k => bD.l0 k l out (i : Int)) (bts (nv l)) := by
 induction d with
 | zero =>
  intro i out hi hlo hv
  obtain rfl : i = l.length := by omega
  refine Ev.succ ?_; simp only [bD.l0]; refine Ev.neg (by omega) (Ev.bind (Zi (by omega)) ?_); rw [hv, Nat.mod_eq_of_lt (rZ ho)]; exact Ev.done _
 | succ d ih =>
  intro i out hi hlo hv; refine Ev.succ ?_; simp only [bD.l0]; have ea := Dz ho i; have ma := uT (nv l) i; rw [jK, ← ea]; refine Ev.pos (by omega) (Ev.pos (by omega) (Og i (by omega) _ (fun out' h1 h2 => ih (i + 1) out' (by omega) h1 h2) 32 0 out _ rfl (by omega) (by omega) ?_)); rw [hv, ma, Nat.add_zero, ← qN]
theorem YX {l : List Int} (ho : Ok l) (hl : l.length ≤ 100000) : Ev (fun k => bD.f k l) (bts (nv l)) :=
 Oh ho hl l.length 0 [] (by omega) rfl (by simp [bv, Nat.mod_one])
theorem JB (n : Nat) : ∀ (out : List Bool), n < 18446744073709551616 → out.length + bu n ≤ 1000 → Ev (fun k => bW.l0 k (n : Int) out) (out ++ bts n) := by
 induction n using Nat.strongRecOn with
 | _ n ih =>
  intro out hn ho; refine Ev.succ ?_; simp only [bW.l0]
  by_cases h : n = 0
  ·subst h; rw [rE, List.append_nil]; exact Ev.neg (by omega) (Ev.done _)
  ·have hp := zC h; rw [show Int.tdiv (n : Int) 2 = ((n / 2 : Nat) : Int) from rfl, show Int.tmod (n : Int) 2 = ((n % 2 : Nat) : Int) from rfl, Ud (by omega) (by omega)]; refine Ev.pos (by omega) (Ev.pos (by omega) ?_); have := ih (n / 2) (by omega) (out ++ [((n % 2 : Nat) : Int) == 1]) (by omega) (by simp; omega); rw [uS h]
   have e : ((((n % 2 : Nat) : Int)) == 1) = (n % 2 == 1) := by rcases Nat.mod_two_eq_zero_or_one n with h | h <;> rw [h] <;> rfl
   rw [e] at this ⊢
   simpa using this
theorem Zj {n : Nat} (h : n < 18446744073709551616) : bu n ≤ 64 := iw h
theorem Fz {n : Int} (h0 : 0 ≤ n) (h1 : n < 18446744073709551616) : Ev (fun k => bW.f k n) (bts n.toNat) := by
 obtain ⟨m, rfl⟩ : ∃ m : Nat, n = m := ⟨n.toNat, by omega⟩
 have := Zj (n := m) (by omega); have h := JB m [] (by omega) (by simp; omega); rw [List.nil_append] at h; rw [Int.toNat_natCast]; exact h
theorem Ul (l : List Bool) (i : Int) : fZ.f l i = some (decide (0 ≤ i) && l.getD i.toNat false) := by
 unfold fZ.f
 by_cases h : i ≥ 0
 ·rw [if_pos h]
  by_cases h1 : i < (l.length : Int)
  ·rw [if_pos h1, if_pos (by omega)]; simp [lI, h]
  ·rw [if_neg h1, Gm (by omega)]; simp
 ·rw [if_neg h, decide_eq_false (by omega)]; rfl
theorem Qp (l : List Bool) (i : Nat) : fZ.f l (i : Int) = some (l.getD i false) := by
 rw [Ul, decide_eq_true (by omega)]; simp
theorem Oi (n i : Nat) : n / 2 ^ i = (n.testBit i).toNat + 2 * (n / 2 ^ (i + 1)) := by
 rw [Nat.pow_succ, ← Nat.div_div_eq_div_mul, Nat.testBit_eq_decide_div_mod_eq]
 rcases Nat.mod_two_eq_zero_or_one (n / 2 ^ i) with h | h <;> simp [h] <;> omega
end Go.Proofs.Ytkgeihbcikiedaa.N
set_option linter.unusedVariables false
namespace Go.Proofs.Ytkgeihbcikiedaa.N
open Go.RowKit Go.Proofs.Ytkgeihbcikiedaa.P Go.Proofs.YtkgeihbcikiedaaW.PrintWords Go.Proofs.YtkgeihbcikiedaaW.PrintMore Sk
theorem JC {xs ys : List Int} (h : Ok xs) (k : Ok ys) (hl : xs.length = ys.length) (e : nv xs = nv ys) : xs = ys := by
 induction xs generalizing ys with
 | nil => cases ys with
  | nil => rfl
  | cons y ys => simp at hl
 | cons x xs ih =>
  cases ys with
  | nil => simp at hl
  | cons y ys =>
   have hx := h.head; have hy := k.head; simp only [nv] at e; rw [ih h.tail k.tail (by simpa using hl) (by omega), show x = y by omega]
theorem DI {n : Nat} (hn : bu n ≤ 10000000) (i : Nat) (hi : i < 1000000) (r : List Int) (acc : List Int) (hacc : acc.length ≤ 1000000)
 (cont : Ev (fun k => aR.l0 k (bts n) (acc ++ [((n / 4294967296 ^ i % 4294967296 : Nat) : Int)]) ((32 * (i + 1) : Nat) : Int)) r) (m : Nat) :
 ∀ (x : Nat), m ≤ 32 → x = n / 2 ^ (32 * i + m) % 2 ^ (32 - m) → Ev (fun k => aR.l1 k (bts n) acc ((32 * i : Nat) : Int) (x : Int) ((m : Int) - 1)) r := by
 induction m with
 | zero =>
  intro x hm hx; refine Ev.succ ?_; simp only [aR.l1]; rw [w64 (x := ((32 * i : Nat) : Int) + 32) (by omega) (by omega), show ((32 * i : Nat) : Int) + 32 = ((32 * (i + 1) : Nat) : Int) by omega]; refine Ev.neg (by omega) (Ev.pos (by omega) ?_); rw [hx, Nat.add_zero, ← qN]; exact cont
 | succ m ih =>
  intro x hm hx; refine Ev.succ ?_; simp only [aR.l1]; have hs := Oi n (32 * i + m)
  have hp : 2 ^ (32 - m) = 2 * 2 ^ (32 - (m + 1)) := by rw [← Nat.pow_succ']; congr 1; omega
  have hx32 : 2 ^ (32 - (m + 1)) ≤ 2 ^ 31 := Nat.pow_le_pow_right (by omega) (by omega)
  have hlt : x < 2 ^ (32 - (m + 1)) := by rw [hx]; exact Nat.mod_lt _ (Nat.two_pow_pos _)
  have hx2 : n / 2 ^ (32 * i + m) % 2 ^ (32 - m) = (n.testBit (32 * i + m)).toNat + 2 * x := by
   rw [hs, hp, hx, show 32 * i + m + 1 = 32 * i + (m + 1) by omega]
   have hb : (n.testBit (32 * i + m)).toNat < 2 := by cases n.testBit (32 * i + m) <;> simp
   rw [Nat.mod_mul, show ((n.testBit (32 * i + m)).toNat + 2 * (n / 2 ^ (32 * i + (m + 1)))) % 2 = (n.testBit (32 * i + m)).toNat by omega, show ((n.testBit (32 * i + m)).toNat + 2 * (n / 2 ^ (32 * i + (m + 1)))) / 2 = n / 2 ^ (32 * i + (m + 1)) by omega]
  rw [show ((m + 1 : Nat) : Int) - 1 = (m : Int) by omega, w64 (x := ((32 * i : Nat) : Int) + (m : Int)) (by omega) (by omega), w64 (x := (m : Int) - 1) (by omega) (by omega), show ((32 * i : Nat) : Int) + (m : Int) = ((32 * i + m : Nat) : Int) by omega]; refine Ev.pos (by omega) (Ev.nu (Qp _ _) ?_); rw [FW]; cases hb : n.testBit (32 * i + m)
  ·rw [hb] at hx2; simp only [Bool.toNat_false, Nat.zero_add] at hx2; rw [show (x : Int) * 2 % 4294967296 = ((2 * x : Nat) : Int) by omega]; exact Ev.neg (by simp) (ih _ (by omega) hx2.symm)
  ·rw [hb] at hx2; simp only [Bool.toNat_true] at hx2; rw [show ((x : Int) * 2 % 4294967296 + 1) % 4294967296 = ((1 + 2 * x : Nat) : Int) by omega]; exact Ev.pos rfl (ih _ (by omega) hx2.symm)
theorem Gn {n : Nat} (hn : bu n ≤ 10000000) (d : Nat) : ∀ (i : Nat) (acc : List Int), i + d = (parts n).length → acc.length = i → Ok acc → nv acc = n % 4294967296 ^ i →
 Ev (fun k => aR.l0 k (bts n) acc ((32 * i : Nat) : Int)) (parts n) := by
 have hl : (bts n).length = bu n := rfl
 have hpl : (parts n).length ≤ 312501 := by
  by_cases h : (parts n).length ≤ 312501
  ·exact h
  ·exfalso; have h0 := Ql (jW n) (n := (parts n).length) (Nat.le_refl _); have h1 := sV (n := n) (L := (parts n).length - 1) (by omega); omega
 induction d with
 | zero =>
  intro i acc hi hla ho hv
  obtain rfl : i = (parts n).length := by omega
  refine Ev.succ ?_; simp only [aR.l0]; have hlt := rZ (jW n); rw [gH] at hlt; have h2 : bu n ≤ 32 * (parts n).length := iw (by rw [← qN]; exact hlt); rw [Nat.mod_eq_of_lt hlt] at hv; have e : acc = parts n := JC ho (jW n) hla (by rw [hv, gH]); rw [e]; exact Ev.neg (by omega) (Ev.done _)
 | succ d ih =>
  intro i acc hi hla ho hv; refine Ev.succ ?_; simp only [aR.l0]; have h1 := sV (n := n) (L := (parts n).length - 1) (by omega)
  have h2 : bu ((parts n).getD ((parts n).length - 1) 0).toNat ≠ 0 := fun e => h1.2 (iL.1 e)
  refine Ev.pos (by omega) ?_; have aiC := DI hn i (by omega) (parts n) acc (by omega) (ih (i + 1) _ (by omega) (by simp [hla]) (ho.app (Ok.cons (by omega) (by omega) Ok.nil)) ?_) 32 0 (by omega) (by simp [Nat.mod_one])
  ·simpa using aiC
  ·rw [Oa, hla, uT, hv]; simp only [nv, Int.toNat_natCast, Nat.mul_zero, Nat.add_zero]
theorem vW {n : Nat} (hn : bu n ≤ 10000000) : Ev (fun k => aR.f k (bts n)) (parts n) :=
 Gn hn _ 0 [] (Nat.zero_add _) rfl Ok.nil (by simp [nv, Nat.mod_one])
theorem JD {a b : List Int} (hl : a.length = b.length) (hn : a.length ≤ 100000000) (d : Nat) : ∀ i : Nat, i + d = a.length → (∀ j, j < i → a.getD j 0 = b.getD j 0) →
 Ev (fun k => cO.l0 k a b (i : Int)) (decide (a = b)) := by
 induction d with
 | zero =>
  intro i hi h; refine Ev.succ ?_; simp only [cO.l0]
  have e : a = b := by
   refine List.ext_getElem hl fun j h1 h2 => ?_
   have := h j (by omega)
   simpa [List.getD_eq_getElem?_getD, h1, h2] using this
  rw [decide_eq_true e]; exact Ev.neg (by omega) (Ev.done _)
 | succ d ih =>
  intro i hi h; refine Ev.succ ?_; simp only [cO.l0]; rw [jK, jK, w64 (by omega) (by omega), show (i : Int) + 1 = ((i + 1 : Nat) : Int) by omega]; refine Ev.pos (by omega) (Ev.pos (by omega) (Ev.pos (by omega) ?_))
  by_cases e : a.getD i 0 = b.getD i 0
  ·refine Ev.pos e (ih (i + 1) (by omega) fun j hj => ?_)
   by_cases e2 : j = i
   ·subst e2; exact e
   ·exact h j (by omega)
  ·rw [decide_eq_false (fun e2 => e (by rw [e2]))]; exact Ev.neg e (Ev.done _)
theorem Qq {a b : List Int} (hn : a.length ≤ 100000000) : Ev (fun k => cO.f k a b) (decide (a = b)) := by
 unfold cO.f
 by_cases hl : a.length = b.length
 ·exact Ev.pos (by omega) (JD hl hn a.length 0 (by omega) (fun j hj => by omega))
 ·rw [decide_eq_false (fun e => hl (by rw [e]))]; exact Ev.neg (by omega) (Ev.done _)
end Go.Proofs.Ytkgeihbcikiedaa.N
set_option linter.unusedVariables false
namespace Go.Proofs.Ytkgeihbcikiedaa.N
open Go.RowKit Go.Proofs.Ytkgeihbcikiedaa.P Go.Proofs.YtkgeihbcikiedaaW.PrintWords Go.Proofs.YtkgeihbcikiedaaW.PrintMore Sk
theorem aiD {n k : Nat} (h : bu n ≤ 32 * k) : (parts n).length ≤ k := fP (by rw [qN]; exact fE.1 h)
theorem acg {n k : Nat} (h : bu n ≤ k) : (parts n).length ≤ k / 32 + 1 := aiD (by omega)
theorem wf_u64 {x : Int} (h : (Lit.int .u64 x).wf = true) : 0 ≤ x ∧ x < 18446744073709551616 := by
 simp [Lit.wf, IntKind.min, IntKind.max, IntKind.signed, IntKind.bits] at h; omega
theorem lV (n k : Nat) : bu (n * 2 ^ k) ≤ bu n + k := by
 by_cases h : n = 0
 ·subst h; rw [Nat.zero_mul, gq]; omega
 ·exact Nat.le_of_eq (ja h k)
end Go.Proofs.Ytkgeihbcikiedaa.N
