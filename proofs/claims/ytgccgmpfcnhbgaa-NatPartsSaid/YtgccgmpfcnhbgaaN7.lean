/- What the document's functions Parts, Same, Full and Zeros of layer 1 compute, within the lengths that each theorem names. -/
import Derived.Test.YtgccgmpfcnhbgaaN6
import Derived.Test.YtgccgmpfcnhbgaaPx2
import Derived.Test.YtgccgmpfcnhbgaaPx7
import Derived.Test.YtgccgmpfcnhbgaaPx9
import Derived.Test.YtgccgmpfcnhbgaaPx0
set_option linter.unusedVariables false
namespace Go.Proofs.Ytgccgmpfcnhbgaa.N
open Go.RowKit Go.Proofs.Ytgccgmpfcnhbgaa.P Go.Proofs.YtgccgmpfcnhbgaaW.PrintWords Go.Proofs.YtgccgmpfcnhbgaaW.PrintMore Sk

/-! Parts -/
theorem nv_inj_len {xs ys : List Int} (h : Ok xs) (k : Ok ys) (hl : xs.length = ys.length) (e : nv xs = nv ys) : xs = ys := by
  induction xs generalizing ys with
  | nil => cases ys with
    | nil => rfl
    | cons y ys => simp at hl
  | cons x xs ih =>
    cases ys with
    | nil => simp at hl
    | cons y ys =>
      have hx := h.head
      have hy := k.head
      simp only [nv] at e
      rw [ih h.tail k.tail (by simpa using hl) (by omega), show x = y by omega]

theorem rparts_inner {n : Nat} (hn : nlen n ≤ 10000000) (i : Nat) (hi : i < 1000000) (r : List Int) (acc : List Int) (hacc : acc.length ≤ 1000000)
    (cont : Ev (fun k => slipstickref01_Parts.l0 k (bts n) (acc ++ [((n / 4294967296 ^ i % 4294967296 : Nat) : Int)]) ((32 * (i + 1) : Nat) : Int)) r) (m : Nat) :
    ∀ (x : Nat), m ≤ 32 → x = n / 2 ^ (32 * i + m) % 2 ^ (32 - m) → Ev (fun k => slipstickref01_Parts.l1 k (bts n) acc ((32 * i : Nat) : Int) (x : Int) ((m : Int) - 1)) r := by
  induction m with
  | zero =>
    intro x hm hx
    refine Ev.succ ?_
    simp only [slipstickref01_Parts.l1]
    rw [w64 (x := ((32 * i : Nat) : Int) + 32) (by omega) (by omega), show ((32 * i : Nat) : Int) + 32 = ((32 * (i + 1) : Nat) : Int) by omega]
    refine Ev.neg (by omega) (Ev.pos (by omega) ?_)
    rw [hx, Nat.add_zero, ← B_pow]
    exact cont
  | succ m ih =>
    intro x hm hx
    refine Ev.succ ?_
    simp only [slipstickref01_Parts.l1]
    have hs := half_step n (32 * i + m)
    have hp : 2 ^ (32 - m) = 2 * 2 ^ (32 - (m + 1)) := by rw [← Nat.pow_succ']; congr 1; omega
    have hx32 : 2 ^ (32 - (m + 1)) ≤ 2 ^ 31 := Nat.pow_le_pow_right (by omega) (by omega)
    have hlt : x < 2 ^ (32 - (m + 1)) := by rw [hx]; exact Nat.mod_lt _ (Nat.two_pow_pos _)
    have hx2 : n / 2 ^ (32 * i + m) % 2 ^ (32 - m) = (n.testBit (32 * i + m)).toNat + 2 * x := by
      rw [hs, hp, hx, show 32 * i + m + 1 = 32 * i + (m + 1) by omega]
      have hb : (n.testBit (32 * i + m)).toNat < 2 := by cases n.testBit (32 * i + m) <;> simp
      rw [Nat.mod_mul, show ((n.testBit (32 * i + m)).toNat + 2 * (n / 2 ^ (32 * i + (m + 1)))) % 2 = (n.testBit (32 * i + m)).toNat by omega, show ((n.testBit (32 * i + m)).toNat + 2 * (n / 2 ^ (32 * i + (m + 1)))) / 2 = n / 2 ^ (32 * i + (m + 1)) by omega]
    rw [show ((m + 1 : Nat) : Int) - 1 = (m : Int) by omega, w64 (x := ((32 * i : Nat) : Int) + (m : Int)) (by omega) (by omega), w64 (x := (m : Int) - 1) (by omega) (by omega), show ((32 * i : Nat) : Int) + (m : Int) = ((32 * i + m : Nat) : Int) by omega]
    refine Ev.pos (by omega) (Ev.bind0 (rbit_nat _ _) ?_)
    rw [bits_get]
    cases hb : n.testBit (32 * i + m)
    · rw [hb] at hx2; simp only [Bool.toNat_false, Nat.zero_add] at hx2
      rw [show (x : Int) * 2 % 4294967296 = ((2 * x : Nat) : Int) by omega]
      exact Ev.neg (by simp) (ih _ (by omega) hx2.symm)
    · rw [hb] at hx2; simp only [Bool.toNat_true] at hx2
      rw [show ((x : Int) * 2 % 4294967296 + 1) % 4294967296 = ((1 + 2 * x : Nat) : Int) by omega]
      exact Ev.pos rfl (ih _ (by omega) hx2.symm)

theorem rparts_loop {n : Nat} (hn : nlen n ≤ 10000000) (d : Nat) : ∀ (i : Nat) (acc : List Int), i + d = (parts n).length → acc.length = i → Ok acc → nv acc = n % 4294967296 ^ i →
    Ev (fun k => slipstickref01_Parts.l0 k (bts n) acc ((32 * i : Nat) : Int)) (parts n) := by
  have hl : (bts n).length = nlen n := rfl
  have hpl : (parts n).length ≤ 312501 := by
    by_cases h : (parts n).length ≤ 312501
    · exact h
    · exfalso
      have h0 := nv_lt_of (Ok_parts n) (n := (parts n).length) (Nat.le_refl _)
      have h1 := nlen_parts (n := n) (L := (parts n).length - 1) (by omega)
      omega
  induction d with
  | zero =>
    intro i acc hi hla ho hv
    obtain rfl : i = (parts n).length := by omega
    refine Ev.succ ?_
    simp only [slipstickref01_Parts.l0]
    have hlt := nv_lt (Ok_parts n)
    rw [nv_parts] at hlt
    have h2 : nlen n ≤ 32 * (parts n).length := nlen_le (by rw [← B_pow]; exact hlt)
    rw [Nat.mod_eq_of_lt hlt] at hv
    have e : acc = parts n := nv_inj_len ho (Ok_parts n) hla (by rw [hv, nv_parts])
    rw [e]
    exact Ev.neg (by omega) (Ev.done _)
  | succ d ih =>
    intro i acc hi hla ho hv
    refine Ev.succ ?_
    simp only [slipstickref01_Parts.l0]
    have h1 := nlen_parts (n := n) (L := (parts n).length - 1) (by omega)
    have h2 : nlen ((parts n).getD ((parts n).length - 1) 0).toNat ≠ 0 := fun e => h1.2 (nlen_eq_zero.1 e)
    refine Ev.pos (by omega) ?_
    have hi31 := rparts_inner hn i (by omega) (parts n) acc (by omega) (ih (i + 1) _ (by omega) (by simp [hla]) (ho.app (Ok.cons (by omega) (by omega) Ok.nil)) ?_) 32 0 (by omega) (by simp [Nat.mod_one])
    · simpa using hi31
    · rw [nv_append, hla, mod_step, hv]; simp only [nv, Int.toNat_natCast, Nat.mul_zero, Nat.add_zero]

theorem rparts_ev {n : Nat} (hn : nlen n ≤ 10000000) : Ev (fun k => slipstickref01_Parts.f k (bts n)) (parts n) :=
  rparts_loop hn _ 0 [] (Nat.zero_add _) rfl Ok.nil (by simp [nv, Nat.mod_one])

/-! Same -/
theorem rsame_loop {a b : List Int} (hl : a.length = b.length) (hn : a.length ≤ 100000000) (d : Nat) : ∀ i : Nat, i + d = a.length → (∀ j, j < i → a.getD j 0 = b.getD j 0) →
    Ev (fun k => slipstickref01_Same.l0 k a b (i : Int)) (decide (a = b)) := by
  induction d with
  | zero =>
    intro i hi h
    refine Ev.succ ?_
    simp only [slipstickref01_Same.l0]
    have e : a = b := by
      refine List.ext_getElem hl fun j h1 h2 => ?_
      have := h j (by omega)
      simpa [List.getD_eq_getElem?_getD, h1, h2] using this
    rw [decide_eq_true e]
    exact Ev.neg (by omega) (Ev.done _)
  | succ d ih =>
    intro i hi h
    refine Ev.succ ?_
    simp only [slipstickref01_Same.l0]
    rw [rd_nat, rd_nat, w64 (by omega) (by omega), show (i : Int) + 1 = ((i + 1 : Nat) : Int) by omega]
    refine Ev.pos (by omega) (Ev.pos (by omega) (Ev.pos (by omega) ?_))
    by_cases e : a.getD i 0 = b.getD i 0
    · refine Ev.pos e (ih (i + 1) (by omega) fun j hj => ?_)
      by_cases e2 : j = i
      · subst e2; exact e
      · exact h j (by omega)
    · rw [decide_eq_false (fun e2 => e (by rw [e2]))]
      exact Ev.neg e (Ev.done _)
theorem rsame_ev {a b : List Int} (hn : a.length ≤ 100000000) : Ev (fun k => slipstickref01_Same.f k a b) (decide (a = b)) := by
  unfold slipstickref01_Same.f
  by_cases hl : a.length = b.length
  · exact Ev.pos (by omega) (rsame_loop hl hn a.length 0 (by omega) (fun j hj => by omega))
  · rw [decide_eq_false (fun e => hl (by rw [e]))]
    exact Ev.neg (by omega) (Ev.done _)

/-! Full -/
theorem rfull_loop (n : Nat) (hn : nlen n ≤ 64) (m : Nat) : ∀ x : Nat, m ≤ nlen n → x = n / 2 ^ m → Ev (fun k => slipstickref01_Full.l0 k (bts n) (x : Int) ((m : Int) - 1)) ((n : Int), 0) := by
  have hl : (bts n).length = nlen n := rfl
  have hlt : n < 2 ^ 64 := nlen_le_iff.1 hn
  induction m with
  | zero =>
    intro x hm hx
    refine Ev.succ ?_
    simp only [slipstickref01_Full.l0]
    rw [hx, Nat.pow_zero, Nat.div_one]
    exact Ev.neg (by omega) (Ev.done _)
  | succ m ih =>
    intro x hm hx
    refine Ev.succ ?_
    simp only [slipstickref01_Full.l0]
    have hs := half_step n m
    have hle : n / 2 ^ m ≤ n := Nat.div_le_self _ _
    rw [show ((m + 1 : Nat) : Int) - 1 = (m : Int) by omega, rdb_nat, bits_get, w64 (by omega) (by omega)]
    refine Ev.pos (by omega) (Ev.pos (by omega) (Ev.pos (by omega) ?_))
    cases hb : n.testBit m
    · rw [hb] at hs; simp only [Bool.toNat_false, Nat.zero_add] at hs
      rw [u64w (x := (x : Int) * 2) (by omega) (by omega), show (x : Int) * 2 = ((2 * x : Nat) : Int) by omega]
      exact Ev.neg (by simp) (ih _ (by omega) (by omega))
    · rw [hb] at hs; simp only [Bool.toNat_true] at hs
      rw [u64w (x := (x : Int) * 2) (by omega) (by omega), u64w (x := (x : Int) * 2 + 1) (by omega) (by omega), show (x : Int) * 2 + 1 = ((1 + 2 * x : Nat) : Int) by omega]
      exact Ev.pos rfl (ih _ (by omega) (by omega))

theorem rfull_ev (n : Nat) (hn : nlen n ≤ 10000000) : Ev (fun k => slipstickref01_Full.f k (bts n)) (if n < 18446744073709551616 then ((n : Int), 0) else (0, 6)) := by
  have hl : (bts n).length = nlen n := rfl
  unfold slipstickref01_Full.f
  have h64 := nlen_le_iff (n := n) (k := 64)
  by_cases h : n < 18446744073709551616
  · rw [if_pos h, w64 (by omega) (by omega)]
    have h1 : nlen n ≤ 64 := h64.2 h
    refine Ev.neg (by omega) ?_
    rw [hl]
    have := rfull_loop n h1 (nlen n) 0 (Nat.le_refl _) (by rw [Nat.div_eq_of_lt (lt_nlen n)])
    simpa using this
  · rw [if_neg h]
    have h1 : ¬ nlen n ≤ 64 := fun e => h (h64.1 e)
    exact Ev.pos (by omega) (Ev.done _)

/-! Zeros -/
theorem rzeros_loop (n : Nat) (hn : nlen n ≤ 10000000) (h0 : n ≠ 0) (d : Nat) : ∀ i : Nat, i + d = tz n → Ev (fun k => slipstickref01_Zeros.l0 k (bts n) (i : Int)) ((tz n : Nat) : Int) := by
  have hl : (bts n).length = nlen n := rfl
  have ht := tz_lt_nlen h0
  obtain ⟨m, e, hm⟩ := tz_split h0
  have hbit : ∀ i, i < tz n → n.testBit i = false := by
    intro i hi
    rw [e, Nat.testBit_two_pow_mul]; simp; omega
  have htop : n.testBit (tz n) = true := by
    have h := Nat.testBit_two_pow_mul (i := tz n) (a := m) (j := tz n)
    rw [← e] at h
    rw [h]; simp [hm]
  induction d with
  | zero =>
    intro i hi
    obtain rfl : i = tz n := by omega
    refine Ev.succ ?_
    simp only [slipstickref01_Zeros.l0]
    rw [rdb_nat, bits_get]
    exact Ev.pos (by omega) (Ev.pos (by omega) (Ev.pos htop (Ev.done _)))
  | succ d ih =>
    intro i hi
    refine Ev.succ ?_
    simp only [slipstickref01_Zeros.l0]
    rw [rdb_nat, bits_get, w64 (by omega) (by omega)]
    exact Ev.pos (by omega) (Ev.pos (by omega) (Ev.neg (by rw [hbit i (by omega)]; simp) (ih (i + 1) (by omega))))
theorem rzeros_ev (n : Nat) (hn : nlen n ≤ 10000000) : Ev (fun k => slipstickref01_Zeros.f k (bts n)) ((tz n : Nat) : Int) := by
  by_cases h0 : n = 0
  · subst h0
    unfold slipstickref01_Zeros.f
    refine Ev.succ ?_
    simp only [slipstickref01_Zeros.l0]
    rw [bits_zero, tz_zero]
    exact Ev.neg (by simp) (Ev.done _)
  · exact rzeros_loop n hn h0 (tz n) 0 (Nat.zero_add _)

end Go.Proofs.Ytgccgmpfcnhbgaa.N
