/- What nat.Cmp computes, for all lists of 32-bit parts of at most a million parts. -/
import Derived.Test.YtgccgmpfcnhbgaaN1
import Derived.Test.YtgccgmpfcnhbgaaPx1
import Derived.Test.YtgccgmpfcnhbgaaPx3
import Derived.Test.YtgccgmpfcnhbgaaPx0
namespace Go.Proofs.Ytgccgmpfcnhbgaa.N
open Go.RowKit Go.Proofs.Ytgccgmpfcnhbgaa.P Go.Proofs.YtgccgmpfcnhbgaaW.PrintWords Go.Proofs.YtgccgmpfcnhbgaaW.PrintMore Sk

/-! ### a part is stored -/
theorem ok_set {l : List Int} (h : Ok l) (i : Nat) {v : Int} (h0 : 0 ≤ v) (h1 : v < 4294967296) : Ok (l.set i v) := by
  intro x hx
  rcases List.mem_or_eq_of_mem_set hx with hx | rfl
  · exact h x hx
  · exact ⟨h0, h1⟩
theorem getD_set (l : List Int) (i j : Nat) (v : Int) (hi : i < l.length) : (l.set i v).getD j 0 = if i = j then v else l.getD j 0 := by
  simp only [List.getD_eq_getElem?_getD, List.getElem?_set]
  split
  · rename_i h; subst h; simp
  · rfl
theorem nv_set (l : List Int) : ∀ (i : Nat) (v : Int), i < l.length → nv (l.set i v) + 4294967296 ^ i * (l.getD i 0).toNat = nv l + 4294967296 ^ i * v.toNat := by
  induction l with
  | nil => intro i v hi; simp at hi
  | cons x xs ih =>
    intro i v hi
    cases i with
    | zero => simp [nv]; omega
    | succ i =>
      have := ih i v (by simpa using hi)
      simp only [List.set_cons_succ, nv, List.getD_cons_succ, Nat.pow_succ]
      have e1 : 4294967296 ^ i * 4294967296 * (xs.getD i 0).toNat = 4294967296 * (4294967296 ^ i * (xs.getD i 0).toNat) := by rw [Nat.mul_comm (4294967296 ^ i) 4294967296, Nat.mul_assoc]
      have e2 : 4294967296 ^ i * 4294967296 * v.toNat = 4294967296 * (4294967296 ^ i * v.toNat) := by rw [Nat.mul_comm (4294967296 ^ i) 4294967296, Nat.mul_assoc]
      rw [e1, e2]
      omega
theorem ok_zeros (n : Nat) : Ok (List.replicate n 0) := by
  intro x hx
  obtain ⟨_, rfl⟩ := List.mem_replicate.1 hx
  omega
theorem getD_zeros (n i : Nat) : (List.replicate n (0 : Int)).getD i 0 = 0 := by
  rw [List.getD_eq_getElem?_getD, List.getElem?_replicate]; split <;> rfl
theorem mod_step (n i : Nat) : n % 4294967296 ^ (i + 1) = n % 4294967296 ^ i + 4294967296 ^ i * (n / 4294967296 ^ i % 4294967296) := by
  rw [Nat.pow_succ, Nat.mod_mul]

/-! ### Add -/
theorem alg_add {o o' i c x y q r A C : Nat} (h1 : o' + 4294967296 ^ i * (0 : Int).toNat = o + 4294967296 ^ i * q) (h2 : o + 4294967296 ^ i * c = A + C) (h3 : c + (x + y) = q + 4294967296 * r) :
    o' + 4294967296 ^ (i + 1) * r = A + 4294967296 ^ i * x + (C + 4294967296 ^ i * y) := by
  rw [Nat.pow_succ]
  generalize 4294967296 ^ i = B at *
  simp only [Int.toNat_zero, Nat.mul_zero, Nat.add_zero] at h1
  have e : B * (c + (x + y)) = B * (q + 4294967296 * r) := by rw [h3]
  simp only [Nat.mul_add] at e
  rw [Nat.mul_assoc]
  omega

theorem add_loop {a b : List Int} (ha : Ok a) (hb : Ok b) (n : Nat) (hn : n ≤ 1000000) (hs : nv a + nv b < 4294967296 ^ n) (d : Nat) :
    ∀ (i : Nat) (out : List Int) (c : Nat), i + d = n → out.length = n → Ok out → (∀ j, i ≤ j → out.getD j 0 = 0) → c ≤ 1 →
      nv out + 4294967296 ^ i * c = nv a % 4294967296 ^ i + nv b % 4294967296 ^ i →
      Ev (fun k => nat_Add.l0 k a b out (c : Int) (n : Int) (i : Int)) (parts (nv a + nv b)) := by
  induction d with
  | zero =>
    intro i out c hi hl ho hz hc hv
    obtain rfl : i = n := by omega
    refine Ev.succ ?_
    simp only [nat_Add.l0]
    refine Ev.neg (by omega) (Ev.bind (told_ev ho (by omega)) ?_)
    rw [Nat.mod_eq_of_lt (by omega), Nat.mod_eq_of_lt (by omega)] at hv
    have : c = 0 := by
      have h2 : 4294967296 ^ i * c < 4294967296 ^ i * 1 := by omega
      have := Nat.lt_of_mul_lt_mul_left h2
      omega
    subst this
    rw [show nv out = nv a + nv b by omega]
    exact Ev.done _
  | succ d ih =>
    intro i out c hi hl ho hz hc hv
    refine Ev.succ ?_
    simp only [nat_Add.l0]
    refine Ev.pos (by omega) (Ev.bind0 (part_eq _ _) (Ev.bind0 (part_eq _ _) (Ev.pos (by omega) (Ev.pos (by omega) ?_))))
    have pa := pt_ok ha i
    have pb := pt_ok hb i
    have ea := pt_nat ha i
    have eb := pt_nat hb i
    have ma := mod_step (nv a) i
    have mb := mod_step (nv b) i
    generalize hx : nv a / 4294967296 ^ i % 4294967296 = x at *
    generalize hy : nv b / 4294967296 ^ i % 4294967296 = y at *
    rw [ea, eb, u64w (x := (x : Int)) (by omega) (by omega), u64w (x := (y : Int)) (by omega) (by omega), u64w (x := (x : Int) + (y : Int)) (by omega) (by omega), u64w (by omega) (by omega), w64 (by omega) (by omega)]
    have hset := nv_set out i (((c : Int) + ((x : Int) + (y : Int))) % 4294967296) (by omega)
    rw [hz i (Nat.le_refl _)] at hset
    rw [show ((i : Int) + 1) = ((i + 1 : Nat) : Int) by omega, show ((c : Int) + ((x : Int) + (y : Int))) / 4294967296 = (((c + (x + y)) / 4294967296 : Nat) : Int) by omega]
    refine ih (i + 1) _ _ (by omega) (by simp [hl]) (ok_set ho _ (by omega) (by omega)) ?_ (by omega) ?_
    · intro j hj
      rw [Int.toNat_natCast, getD_set _ _ _ _ (by omega), if_neg (by omega)]
      exact hz j (by omega)
    · rw [Int.toNat_natCast, ma, mb]
      have e3 : (((c : Int) + ((x : Int) + (y : Int))) % 4294967296).toNat = (c + (x + y)) % 4294967296 := by omega
      rw [e3] at hset
      have e4 : c + (x + y) = (c + (x + y)) % 4294967296 + 4294967296 * ((c + (x + y)) / 4294967296) := by omega
      exact alg_add hset hv e4

theorem nv_lt_of {l : List Int} (h : Ok l) {n : Nat} (hn : l.length ≤ n) : nv l < 4294967296 ^ n := Nat.lt_of_lt_of_le (nv_lt h) (Nat.pow_le_pow_right (by omega) hn)

theorem add_ev {a b : List Int} (ha : Ok a) (hb : Ok b) (la : a.length ≤ 100000) (lb : b.length ≤ 100000) :
    Ev (fun k => nat_Add.f k a b) (parts (nv a + nv b)) := by
  unfold nat_Add.f
  rw [mx_nat, w64 (by omega) (by omega), show (((max a.length b.length : Nat) : Int) + 1) = ((max a.length b.length + 1 : Nat) : Int) by omega]
  refine Ev.pos (by omega) (Ev.pos (by omega) (Ev.bind0 rfl ?_))
  rw [Int.toNat_natCast, List.length_replicate]
  have h1 := nv_lt_of ha (n := max a.length b.length) (by omega)
  have h2 := nv_lt_of hb (n := max a.length b.length) (by omega)
  refine add_loop ha hb (max a.length b.length + 1) (by omega) (by rw [Nat.pow_succ]; omega) (max a.length b.length + 1) 0 _ 0 (by omega) (by simp) (ok_zeros _) (fun j _ => getD_zeros _ _) (by omega) ?_
  rw [nv_replicate]; simp [Nat.mod_one]

/-! ### Sub -/
theorem alg_sub {o o' i bw x y q r A C : Nat} (h1 : o' + 4294967296 ^ i * (0 : Int).toNat = o + 4294967296 ^ i * q) (h2 : o + C = A + 4294967296 ^ i * bw) (h3 : x + 4294967296 * r = q + y + bw) :
    o' + (C + 4294967296 ^ i * y) = A + 4294967296 ^ i * x + 4294967296 ^ (i + 1) * r := by
  rw [Nat.pow_succ]
  generalize 4294967296 ^ i = B at *
  simp only [Int.toNat_zero, Nat.mul_zero, Nat.add_zero] at h1
  have e : B * (x + 4294967296 * r) = B * (q + y + bw) := by rw [h3]
  simp only [Nat.mul_add] at e
  rw [Nat.mul_assoc]
  omega

theorem and_neg1 : Go.bits .and .i64 (-1) 1 = 1 := by decide +kernel
theorem and_zero1 : Go.bits .and .i64 0 1 = 0 := by decide +kernel

theorem sub_loop {a b : List Int} (ha : Ok a) (hb : Ok b) (la : a.length ≤ 100000) (hs : nv b ≤ nv a) (d : Nat) :
    ∀ (i : Nat) (out : List Int) (c : Nat), i + d = a.length → out.length = a.length → Ok out → (∀ j, i ≤ j → out.getD j 0 = 0) → c ≤ 1 →
      nv out + nv b % 4294967296 ^ i = nv a % 4294967296 ^ i + 4294967296 ^ i * c →
      Ev (fun k => nat_Sub.l0 k a b out (c : Int) (a.length : Int) (i : Int)) (parts (nv a - nv b), 0) := by
  induction d with
  | zero =>
    intro i out c hi hl ho hz hc hv
    obtain rfl : i = a.length := by omega
    refine Ev.succ ?_
    simp only [nat_Sub.l0]
    refine Ev.neg (by omega) (Ev.bind (told_ev ho (by omega)) ?_)
    have h1 := nv_lt ha
    have h3 := nv_lt ho
    rw [hl] at h3
    rw [Nat.mod_eq_of_lt h1, Nat.mod_eq_of_lt (by omega)] at hv
    have : c = 0 := by
      have h2 : 4294967296 ^ a.length * c < 4294967296 ^ a.length * 1 := by omega
      have := Nat.lt_of_mul_lt_mul_left h2
      omega
    subst this
    rw [show nv out = nv a - nv b by omega]
    exact Ev.done _
  | succ d ih =>
    intro i out c hi hl ho hz hc hv
    refine Ev.succ ?_
    simp only [nat_Sub.l0]
    refine Ev.pos (by omega) (Ev.pos (by omega) (Ev.pos (by omega) (Ev.bind0 (part_eq _ _) (Ev.pos (by omega) ?_))))
    have ga := ha.get i
    have pb := pt_ok hb i
    have ea := nv_get ha i
    have eb := pt_nat hb i
    have ma := mod_step (nv a) i
    have mb := mod_step (nv b) i
    rw [show rd a (i : Int) = a.getD i 0 by simp [rd], ← ea]
    generalize hx : nv a / 4294967296 ^ i % 4294967296 = x at *
    generalize hy : nv b / 4294967296 ^ i % 4294967296 = y at *
    rw [eb, w64 (x := (x : Int)) (by omega) (by omega), w64 (x := (y : Int)) (by omega) (by omega), w64 (x := (x : Int) - (y : Int)) (by omega) (by omega), w64 (x := (x : Int) - (y : Int) - (c : Int)) (by omega) (by omega), w64 (by omega) (by omega), Int.toNat_natCast]
    have hset := nv_set out i (((x : Int) - (y : Int) - (c : Int)) % 4294967296) (by omega)
    rw [hz i (Nat.le_refl _)] at hset
    rw [show ((i : Int) + 1) = ((i + 1 : Nat) : Int) by omega]
    obtain ⟨r, hr1, hr2, hr3⟩ : ∃ r : Nat, r ≤ 1 ∧ Go.bits .and .i64 (((x : Int) - (y : Int) - (c : Int)) / 9223372036854775808) 1 = (r : Int) ∧ ((((x : Int) - (y : Int) - (c : Int)) % 4294967296).toNat : Int) = (x : Int) - y - c + 4294967296 * r := by
      by_cases h : (x : Int) - (y : Int) - (c : Int) < 0
      · refine ⟨1, by omega, ?_, by omega⟩
        rw [show ((x : Int) - (y : Int) - (c : Int)) / 9223372036854775808 = -1 by omega]; exact and_neg1
      · refine ⟨0, by omega, ?_, by omega⟩
        rw [show ((x : Int) - (y : Int) - (c : Int)) / 9223372036854775808 = 0 by omega]; exact and_zero1
    rw [hr2]
    refine ih (i + 1) _ _ (by omega) (by simp [hl]) (ok_set ho _ (by omega) (by omega)) ?_ hr1 ?_
    · intro j hj
      rw [getD_set _ _ _ _ (by omega), if_neg (by omega)]
      exact hz j (by omega)
    · rw [ma, mb]
      exact alg_sub hset hv (by omega)

theorem sub_ev {a b : List Int} (ha : Ok a) (hb : Ok b) (la : a.length ≤ 100000) (lb : b.length ≤ 100000) :
    Ev (fun k => nat_Sub.f k a b) (if nv a < nv b then (([] : List Int), 3) else (parts (nv a - nv b), 0)) := by
  unfold nat_Sub.f
  refine Ev.bind (cmp_ev ha hb (by omega) (by omega)) ?_
  by_cases h : nv a < nv b
  · rw [if_pos h]
    exact Ev.pos (sg_neg.2 h) (Ev.done _)
  · rw [if_neg h]
    refine Ev.neg (fun h2 => h (sg_neg.1 h2)) (Ev.pos (by omega) (Ev.pos (by omega) (Ev.bind0 rfl ?_)))
    rw [Int.toNat_natCast, List.length_replicate]
    refine sub_loop ha hb la (by omega) a.length 0 _ 0 (by omega) (by simp) (ok_zeros _) (fun j _ => getD_zeros _ _) (by omega) ?_
    rw [nv_replicate]; simp [Nat.mod_one]

end Go.Proofs.Ytgccgmpfcnhbgaa.N
