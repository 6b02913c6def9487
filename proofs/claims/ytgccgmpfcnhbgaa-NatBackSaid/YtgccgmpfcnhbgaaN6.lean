/- What the document's functions of layer 1 compute on lists of bits, within the lengths that each theorem names. -/
import Derived.Test.YtgccgmpfcnhbgaaN5
import Derived.Test.YtgccgmpfcnhbgaaPx6
import Derived.Test.YtgccgmpfcnhbgaaPx7
import Derived.Test.YtgccgmpfcnhbgaaPx8
import Derived.Test.YtgccgmpfcnhbgaaPx9
import Derived.Test.YtgccgmpfcnhbgaaPx10
import Derived.Test.YtgccgmpfcnhbgaaPx0
set_option linter.unusedVariables false
namespace Go.Proofs.Ytgccgmpfcnhbgaa.N
open Go.RowKit Go.Proofs.Ytgccgmpfcnhbgaa.P Go.Proofs.YtgccgmpfcnhbgaaW.PrintWords Go.Proofs.YtgccgmpfcnhbgaaW.PrintMore Sk

/-! ### the document's answer for layer 1 -/
theorem bgetD_ge {l : List Bool} {i : Nat} (h : l.length ≤ i) : l.getD i false = false := by
  rw [List.getD_eq_getElem?_getD, List.getElem?_eq_none h]; rfl
theorem rdb_nat (l : List Bool) (i : Nat) : rdOf false l (i : Int) = l.getD i false := by unfold rdOf; rw [Int.toNat_natCast]

theorem cut_loop {l : List Bool} (hl : l.length ≤ 100000000) (m : Nat) (hm : m ≤ l.length) (hz : ∀ i, m ≤ i → l.getD i false = false) :
    Ev (fun k => slipstickref01_cut.l0 k l (m : Int)) (bts (bv l)) := by
  induction m with
  | zero =>
    refine Ev.succ ?_
    simp only [slipstickref01_cut.l0]
    refine Ev.neg (by omega) (Ev.pos (by omega) (Ev.pos (by omega) ?_))
    rw [← bits_take 0 hm hz (.inl rfl)]
    exact Ev.done _
  | succ m ih =>
    refine Ev.succ ?_
    simp only [slipstickref01_cut.l0]
    have e : wrap64 (((m + 1 : Nat) : Int) - 1) = (m : Int) := by rw [w64 (by omega) (by omega)]; omega
    rw [e, rdb_nat]
    refine Ev.pos (by omega) (Ev.pos (by omega) (Ev.pos (by omega) ?_))
    by_cases h0 : l.getD m false = true
    · refine Ev.pos h0 (Ev.pos (by omega) (Ev.pos (by omega) ?_))
      rw [← bits_take (m + 1) hm hz (.inr h0)]
      exact Ev.done _
    · refine Ev.neg h0 (ih (by omega) fun i hi => ?_)
      by_cases e : i = m
      · subst e; simpa using h0
      · exact hz i (by omega)
theorem cut_ev {l : List Bool} (hl : l.length ≤ 100000000) : Ev (fun k => slipstickref01_cut.f k l) (bts (bv l)) :=
  cut_loop hl l.length (Nat.le_refl _) fun _ hi => bgetD_ge hi

/-! Of -/
theorem bv_snoc (l : List Bool) (b : Bool) : bv (l ++ [b]) = bv l + 2 ^ l.length * b.toNat := by rw [bv_append]; simp [bv]
theorem half_bit (x : Nat) : ((x % 2 == 1 : Bool)).toNat = x % 2 := by
  rcases Nat.mod_two_eq_zero_or_one x with h | h <;> rw [h] <;> rfl

theorem rof_inner {l : List Int} (i : Nat) (hi : i < 1000000) (r : List Bool)
    (cont : ∀ out : List Bool, out.length = 32 * (i + 1) → bv out = nv l % 4294967296 ^ (i + 1) → Ev (fun k => slipstickref01_Of.l0 k l out ((i + 1 : Nat) : Int)) r) (d : Nat) :
    ∀ (j : Nat) (out : List Bool) (x : Nat), j + d = 32 → out.length = 32 * i + j → x < 2 ^ (32 - j) → bv out + 2 ^ (32 * i + j) * x = nv l % 4294967296 ^ (i + 1) →
      Ev (fun k => slipstickref01_Of.l1 k l out (i : Int) (x : Int) (j : Int)) r := by
  induction d with
  | zero =>
    intro j out x hj hl hx hv
    obtain rfl : j = 32 := by omega
    refine Ev.succ ?_
    simp only [slipstickref01_Of.l1]
    rw [w64 (x := (i : Int) + 1) (by omega) (by omega), show (i : Int) + 1 = ((i + 1 : Nat) : Int) by omega]
    refine Ev.neg (by omega) (cont out (by omega) ?_)
    have : x = 0 := by rw [show 32 - 32 = 0 from rfl, Nat.pow_zero] at hx; omega
    subst this
    simpa using hv
  | succ d ih =>
    intro j out x hj hl hx hv
    refine Ev.succ ?_
    simp only [slipstickref01_Of.l1]
    have hx32 : x < 4294967296 := Nat.lt_of_lt_of_le hx (Nat.pow_le_pow_right (n := 2) (j := 32) (by omega) (by omega))
    rw [w64 (x := (j : Int) + 1) (by omega) (by omega), show (j : Int) + 1 = ((j + 1 : Nat) : Int) by omega, show Int.tdiv (x : Int) 2 = ((x / 2 : Nat) : Int) from rfl, show Int.tmod (x : Int) 2 = ((x % 2 : Nat) : Int) from rfl,
      show ((x / 2 : Nat) : Int) % 4294967296 = ((x / 2 : Nat) : Int) by omega]
    refine Ev.pos (by omega) (Ev.pos (by omega) (ih (j + 1) _ _ (by omega) (by simp [hl]; omega) ?_ ?_))
    · have : 2 ^ (32 - j) = 2 * 2 ^ (32 - (j + 1)) := by rw [← Nat.pow_succ']; congr 1; omega
      omega
    · have hb : ((((x % 2 : Nat) : Int) == 1 : Bool)).toNat = x % 2 := by
        rcases Nat.mod_two_eq_zero_or_one x with h | h <;> rw [h] <;> rfl
      rw [bv_snoc, hb, hl, ← hv, ← Nat.add_assoc, Nat.pow_succ, Nat.mul_assoc, Nat.add_assoc, ← Nat.mul_add]
      congr 2; omega

theorem rof_outer {l : List Int} (ho : Ok l) (hl : l.length ≤ 100000) (d : Nat) : ∀ (i : Nat) (out : List Bool), i + d = l.length → out.length = 32 * i → bv out = nv l % 4294967296 ^ i →
    Ev (fun k => slipstickref01_Of.l0 k l out (i : Int)) (bts (nv l)) := by
  induction d with
  | zero =>
    intro i out hi hlo hv
    obtain rfl : i = l.length := by omega
    refine Ev.succ ?_
    simp only [slipstickref01_Of.l0]
    refine Ev.neg (by omega) (Ev.bind (cut_ev (by omega)) ?_)
    rw [hv, Nat.mod_eq_of_lt (nv_lt ho)]
    exact Ev.done _
  | succ d ih =>
    intro i out hi hlo hv
    refine Ev.succ ?_
    simp only [slipstickref01_Of.l0]
    have ea := nv_get ho i
    have ma := mod_step (nv l) i
    rw [rd_nat, ← ea]
    refine Ev.pos (by omega) (Ev.pos (by omega) (rof_inner i (by omega) _ (fun out' h1 h2 => ih (i + 1) out' (by omega) h1 h2) 32 0 out _ rfl (by omega) (by omega) ?_))
    rw [hv, ma, Nat.add_zero, ← B_pow]

theorem rof_ev {l : List Int} (ho : Ok l) (hl : l.length ≤ 100000) : Ev (fun k => slipstickref01_Of.f k l) (bts (nv l)) :=
  rof_outer ho hl l.length 0 [] (by omega) rfl (by simp [bv, Nat.mod_one])

/-! Word -/
theorem rword_loop (n : Nat) : ∀ (out : List Bool), n < 18446744073709551616 → out.length + nlen n ≤ 1000 → Ev (fun k => slipstickref01_Word.l0 k (n : Int) out) (out ++ bts n) := by
  induction n using Nat.strongRecOn with
  | _ n ih =>
    intro out hn ho
    refine Ev.succ ?_
    simp only [slipstickref01_Word.l0]
    by_cases h : n = 0
    · subst h
      rw [bits_zero, List.append_nil]
      exact Ev.neg (by omega) (Ev.done _)
    · have hp := nlen_pos h
      rw [show Int.tdiv (n : Int) 2 = ((n / 2 : Nat) : Int) from rfl, show Int.tmod (n : Int) 2 = ((n % 2 : Nat) : Int) from rfl, u64w (by omega) (by omega)]
      refine Ev.pos (by omega) (Ev.pos (by omega) ?_)
      have := ih (n / 2) (by omega) (out ++ [((n % 2 : Nat) : Int) == 1]) (by omega) (by simp; omega)
      rw [bits_pos h]
      have e : ((((n % 2 : Nat) : Int)) == 1) = (n % 2 == 1) := by rcases Nat.mod_two_eq_zero_or_one n with h | h <;> rw [h] <;> rfl
      rw [e] at this ⊢
      simpa using this
theorem nlen64 {n : Nat} (h : n < 18446744073709551616) : nlen n ≤ 64 := nlen_le h
theorem rword_ev {n : Int} (h0 : 0 ≤ n) (h1 : n < 18446744073709551616) : Ev (fun k => slipstickref01_Word.f k n) (bts n.toNat) := by
  obtain ⟨m, rfl⟩ : ∃ m : Nat, n = m := ⟨n.toNat, by omega⟩
  have := nlen64 (n := m) (by omega)
  have h := rword_loop m [] (by omega) (by simp; omega)
  rw [List.nil_append] at h
  rw [Int.toNat_natCast]
  exact h

/-! Bit -/
theorem rbit_eq (l : List Bool) (i : Int) : slipstickref01_Bit.f l i = some (decide (0 ≤ i) && l.getD i.toNat false) := by
  unfold slipstickref01_Bit.f
  by_cases h : i ≥ 0
  · rw [if_pos h]
    by_cases h1 : i < (l.length : Int)
    · rw [if_pos h1, if_pos (by omega)]; simp [rdOf, h]
    · rw [if_neg h1, bgetD_ge (by omega)]; simp
  · rw [if_neg h, decide_eq_false (by omega)]; rfl
theorem rbit_nat (l : List Bool) (i : Nat) : slipstickref01_Bit.f l (i : Int) = some (l.getD i false) := by
  rw [rbit_eq, decide_eq_true (by omega)]; simp

/-! Cmp -/
theorem half_step (n i : Nat) : n / 2 ^ i = (n.testBit i).toNat + 2 * (n / 2 ^ (i + 1)) := by
  rw [Nat.pow_succ, ← Nat.div_div_eq_div_mul, Nat.testBit_eq_decide_div_mod_eq]
  rcases Nat.mod_two_eq_zero_or_one (n / 2 ^ i) with h | h <;> simp [h] <;> omega
theorem mod_half (n i : Nat) : n % 2 ^ (i + 1) = n % 2 ^ i + 2 ^ i * (n.testBit i).toNat := by
  rw [Nat.pow_succ, Nat.mod_mul, Nat.testBit_eq_decide_div_mod_eq]
  rcases Nat.mod_two_eq_zero_or_one (n / 2 ^ i) with h | h <;> simp [h]

theorem rcmp_loop (a b : List Bool) (m : Nat) (hm : m ≤ 100000000) (he : bv a / 2 ^ m = bv b / 2 ^ m) :
    Ev (fun k => slipstickref01_Cmp.l0 k a b ((m : Int) - 1)) (sg (bv a) (bv b)) := by
  induction m with
  | zero =>
    refine Ev.succ ?_
    simp only [slipstickref01_Cmp.l0]
    refine Ev.neg (by omega) ?_
    simp only [Nat.pow_zero, Nat.div_one] at he
    rw [he, sg_eq]; exact Ev.done _
  | succ m ih =>
    refine Ev.succ ?_
    simp only [slipstickref01_Cmp.l0]
    rw [show (((m + 1 : Nat) : Int) - 1) = (m : Int) by omega]
    refine Ev.pos (by omega) (Ev.bind0 (rbit_nat _ _) (Ev.bind0 (rbit_nat _ _) ?_))
    rw [bv_get, bv_get]
    have ea := half_step (bv a) m
    have eb := half_step (bv b) m
    cases hx : (bv a).testBit m <;> cases hy : (bv b).testBit m
    · refine Ev.neg (by simp) (Ev.succ ?_)
      simp only [slipstickref01_Cmp.j1]
      rw [w64 (by omega) (by omega)]
      refine Ev.neg (by simp) (Ev.neg (by simp) (ih (by omega) (by simp [hx, hy] at ea eb; omega)))
    · refine Ev.neg (by simp) (Ev.succ ?_)
      simp only [slipstickref01_Cmp.j1]
      refine Ev.neg (by simp) (Ev.pos (by simp) (Ev.neg (by simp) ?_))
      rw [sg_lt (Nat.lt_of_div_lt_div (c := 2 ^ m) (by simp [hx, hy] at ea eb; omega))]; exact Ev.done _
    · refine Ev.pos (by simp) (Ev.succ ?_)
      simp only [slipstickref01_Cmp.j1]
      refine Ev.pos (by simp) ?_
      rw [sg_gt (Nat.lt_of_div_lt_div (c := 2 ^ m) (by simp [hx, hy] at ea eb; omega))]; exact Ev.done _
    · refine Ev.pos (by simp) (Ev.succ ?_)
      simp only [slipstickref01_Cmp.j1]
      rw [w64 (by omega) (by omega)]
      refine Ev.neg (by simp) (Ev.pos (by simp) (Ev.pos (by simp) (ih (by omega) (by simp [hx, hy] at ea eb; omega))))

theorem rcmp_ev {a b : List Bool} (la : a.length ≤ 10000000) (lb : b.length ≤ 10000000) : Ev (fun k => slipstickref01_Cmp.f k a b) (sg (bv a) (bv b)) := by
  unfold slipstickref01_Cmp.f
  rw [mx_nat, w64 (by omega) (by omega)]
  refine rcmp_loop a b _ (by omega) ?_
  rw [Nat.div_eq_of_lt (Nat.lt_of_lt_of_le (bv_lt a) (Nat.pow_le_pow_right (by omega) (by omega))), Nat.div_eq_of_lt (Nat.lt_of_lt_of_le (bv_lt b) (Nat.pow_le_pow_right (by omega) (by omega)))]

/-! Add -/
theorem alg2_add {o c A C p x y z r : Nat} (h2 : o + p * c = A + C) (h3 : c + (x + y) = z + 2 * r) :
    o + p * z + p * 2 * r = A + p * x + (C + p * y) := by
  have e : p * (c + (x + y)) = p * (z + 2 * r) := by rw [h3]
  simp only [Nat.mul_add] at e
  rw [Nat.mul_assoc]
  omega
theorem radd_loop (a b : List Bool) (n : Nat) (hn : n ≤ 50000000) (ha : a.length ≤ n) (hb : b.length ≤ n) (hnm : n = max a.length b.length) (d : Nat) :
    ∀ (i : Nat) (out : List Bool) (c : Bool), i + d = n + 1 → out.length = i → bv out + 2 ^ i * c.toNat = bv a % 2 ^ i + bv b % 2 ^ i →
      Ev (fun k => slipstickref01_Add.l0 k a b out c (i : Int)) (bts (bv a + bv b)) := by
  induction d with
  | zero =>
    intro i out c hi hl hv
    obtain rfl : i = n + 1 := by omega
    refine Ev.succ ?_
    simp only [slipstickref01_Add.l0]
    rw [mx_nat, ← hnm]
    refine Ev.neg (show ¬ (((n + 1 : Nat) : Int) ≤ (n : Int)) by omega) (Ev.bind (cut_ev (by omega)) ?_)
    have h1 : bv a < 2 ^ n := Nat.lt_of_lt_of_le (bv_lt a) (Nat.pow_le_pow_right (by omega) ha)
    have h2 : bv b < 2 ^ n := Nat.lt_of_lt_of_le (bv_lt b) (Nat.pow_le_pow_right (by omega) hb)
    have h3 : 2 ^ (n + 1) = 2 * 2 ^ n := Nat.pow_succ'
    have h4 : bv a < 2 ^ (n + 1) := by omega
    have h5 : bv b < 2 ^ (n + 1) := by omega
    rw [Nat.mod_eq_of_lt h4, Nat.mod_eq_of_lt h5] at hv
    have : c = false := by
      cases c
      · rfl
      · simp at hv; omega
    subst this
    rw [show bv out = bv a + bv b by simpa using hv]
    exact Ev.done _
  | succ d ih =>
    intro i out c hi hl hv
    refine Ev.succ ?_
    simp only [slipstickref01_Add.l0]
    rw [mx_nat, ← hnm]
    refine Ev.pos (by omega) (Ev.bind0 (rbit_nat _ _) (Ev.bind0 (rbit_nat _ _) (Ev.pos (by omega) (Ev.bind0 rfl ?_))))
    rw [bv_get, bv_get, w64 (by omega) (by omega), show (i : Int) + 1 = ((i + 1 : Nat) : Int) by omega]
    have ma := mod_half (bv a) i
    have mb := mod_half (bv b) i
    generalize (bv a).testBit i = x at *
    generalize (bv b).testBit i = y at *
    have key : ∀ r : Bool, c.toNat + (x.toNat + y.toNat) = ((x != y) != c).toNat + 2 * r.toNat → Ev (fun k => slipstickref01_Add.l0 k a b (out ++ [((x != y) != c)]) r ((i + 1 : Nat) : Int)) (bts (bv a + bv b)) := by
      intro r hr
      refine ih (i + 1) _ _ (by omega) (by simp [hl]) ?_
      rw [bv_snoc, hl, ma, mb, Nat.pow_succ]
      exact alg2_add hv hr
    cases x <;> cases y <;> cases c
    · exact Ev.neg (by simp) (Ev.neg (by simp) (key _ (by decide)))
    · exact Ev.neg (by simp) (Ev.pos (by simp) (key _ (by decide)))
    · exact Ev.neg (by simp) (Ev.neg (by simp) (key _ (by decide)))
    · exact Ev.neg (by simp) (Ev.pos (by simp) (key _ (by decide)))
    · exact Ev.pos (by simp) (Ev.neg (by simp) (Ev.neg (by simp) (key _ (by decide))))
    · exact Ev.pos (by simp) (Ev.neg (by simp) (Ev.pos (by simp) (key _ (by decide))))
    · exact Ev.pos (by simp) (Ev.pos (by simp) (key _ (by decide)))
    · exact Ev.pos (by simp) (Ev.pos (by simp) (key _ (by decide)))

theorem radd_ev {a b : List Bool} (la : a.length ≤ 10000000) (lb : b.length ≤ 10000000) : Ev (fun k => slipstickref01_Add.f k a b) (bts (bv a + bv b)) :=
  radd_loop a b (max a.length b.length) (by omega) (by omega) (by omega) rfl _ 0 [] false (Nat.zero_add _) rfl (by simp [bv, Nat.mod_one])

/-! Sub -/
theorem alg2_sub {o c A C p x y z r : Nat} (h2 : o + C = A + p * c) (h3 : x + 2 * r = z + y + c) :
    o + p * z + (C + p * y) = A + p * x + p * 2 * r := by
  have e : p * (x + 2 * r) = p * (z + y + c) := by rw [h3]
  simp only [Nat.mul_add] at e
  rw [Nat.mul_assoc]
  omega
theorem rsub_loop (a b : List Bool) (la : a.length ≤ 10000000) (hs : bv b ≤ bv a) (d : Nat) :
    ∀ (i : Nat) (out : List Bool) (c : Bool), i + d = a.length → out.length = i → bv out + bv b % 2 ^ i = bv a % 2 ^ i + 2 ^ i * c.toNat →
      Ev (fun k => slipstickref01_Sub.l0 k a b out c (i : Int)) (bts (bv a - bv b)) := by
  induction d with
  | zero =>
    intro i out c hi hl hv
    obtain rfl : i = a.length := by omega
    refine Ev.succ ?_
    simp only [slipstickref01_Sub.l0]
    refine Ev.neg (by omega) (Ev.bind (cut_ev (by omega)) ?_)
    have h1 := bv_lt a
    have h3 := bv_lt out
    rw [hl] at h3
    rw [Nat.mod_eq_of_lt h1, Nat.mod_eq_of_lt (by omega)] at hv
    have : c = false := by
      cases c
      · rfl
      · simp at hv; omega
    subst this
    simp at hv
    rw [show bv out = bv a - bv b by omega]
    exact Ev.done _
  | succ d ih =>
    intro i out c hi hl hv
    refine Ev.succ ?_
    simp only [slipstickref01_Sub.l0]
    refine Ev.pos (by omega) (Ev.pos (by omega) (Ev.bind0 (rbit_nat _ _) (Ev.pos (by omega) (Ev.bind0 rfl ?_))))
    rw [rdb_nat, bv_get, bv_get, w64 (by omega) (by omega), show (i : Int) + 1 = ((i + 1 : Nat) : Int) by omega]
    have ma := mod_half (bv a) i
    have mb := mod_half (bv b) i
    generalize (bv a).testBit i = x at *
    generalize (bv b).testBit i = y at *
    have key : ∀ r : Bool, x.toNat + 2 * r.toNat = ((x != y) != c).toNat + y.toNat + c.toNat → Ev (fun k => slipstickref01_Sub.l0 k a b (out ++ [((x != y) != c)]) r ((i + 1 : Nat) : Int)) (bts (bv a - bv b)) := by
      intro r hr
      refine ih (i + 1) _ _ (by omega) (by simp [hl]) ?_
      rw [bv_snoc, hl, ma, mb, Nat.pow_succ]
      exact alg2_sub hv hr
    cases x <;> cases y <;> cases c
    · exact Ev.neg (by simp) (Ev.neg (by simp) (Ev.neg (by simp) (key _ (by decide))))
    · exact Ev.neg (by simp) (Ev.neg (by simp) (Ev.pos (by simp) (key _ (by decide))))
    · exact Ev.neg (by simp) (Ev.pos (by simp) (key _ (by decide)))
    · exact Ev.neg (by simp) (Ev.pos (by simp) (key _ (by decide)))
    · exact Ev.pos (by simp) (Ev.neg (by simp) (key _ (by decide)))
    · exact Ev.pos (by simp) (Ev.neg (by simp) (key _ (by decide)))
    · exact Ev.pos (by simp) (Ev.pos (by simp) (key _ (by decide)))
    · exact Ev.pos (by simp) (Ev.pos (by simp) (key _ (by decide)))

theorem rsub_ev {a b : List Bool} (la : a.length ≤ 10000000) (hs : bv b ≤ bv a) : Ev (fun k => slipstickref01_Sub.f k a b) (bts (bv a - bv b)) :=
  rsub_loop a b la hs a.length 0 [] false (by omega) rfl (by simp [bv, Nat.mod_one])

/-! Left, Right -/
theorem rleft_eq (n : Nat) (k : Int) (h0 : 0 ≤ k) (h1 : k ≤ 100000000) (hn : nlen n ≤ 100000000) : slipstickref01_Left.f (bts n) k = some (bts (n * 2 ^ k.toNat)) := by
  unfold slipstickref01_Left.f
  by_cases h : n = 0
  · subst h; rw [bits_zero, Nat.zero_mul, bits_zero]; rfl
  · have hl : (bts n).length = nlen n := rfl
    have hz : nlen n ≠ 0 := fun e => h (nlen_eq_zero.1 e)
    rw [if_neg (by omega), if_pos h0, if_pos (by omega)]
    simp only [Option.bind_some]
    rw [if_pos (by rw [List.length_replicate]; omega)]
    have hf : BFull (List.replicate k.toNat false ++ bts n) := by
      refine .inr ?_
      rcases bfull_bits n with e | e
      · exact absurd (bits_inj (e.trans bits_zero.symm)) h
      · rw [hl] at e
        rw [List.length_append, List.length_replicate, hl, List.getD_eq_getElem?_getD, List.getElem?_append_right (by simp; omega), List.length_replicate, show k.toNat + nlen n - 1 - k.toNat = nlen n - 1 by omega, ← List.getD_eq_getElem?_getD]
        exact e
    rw [← bits_bv hf, bv_append, bv_replicate, bv_bits, List.length_replicate, Nat.zero_add, Nat.mul_comm]

theorem drop_bits (n k : Nat) : (bts n).drop k = bts (n / 2 ^ k) := by
  induction k generalizing n with
  | zero => simp
  | succ k ih =>
    by_cases h : n = 0
    · subst h; simp [bits_zero]
    · rw [bits_pos h, List.drop_succ_cons, ih, Nat.div_div_eq_div_mul, Nat.pow_succ']

theorem rright_loop (n m : Nat) (hm : m ≤ nlen n) (hn : nlen n ≤ 100000000) (d : Nat) : ∀ (i : Nat) (c : Bool), i + d = m → c = decide (n % 2 ^ i ≠ 0) →
    Ev (fun k => slipstickref01_Right.l0 k (bts n) (m : Int) c (i : Int)) (bts (n / 2 ^ m), decide (n % 2 ^ m ≠ 0)) := by
  have hl : (bts n).length = nlen n := rfl
  induction d with
  | zero =>
    intro i c hi hc
    obtain rfl : i = m := by omega
    refine Ev.succ ?_
    simp only [slipstickref01_Right.l0]
    rw [Int.toNat_natCast, drop_bits, hc]
    exact Ev.neg (by omega) (Ev.pos (by omega) (Ev.pos (by omega) (Ev.done _)))
  | succ d ih =>
    intro i c hi hc
    refine Ev.succ ?_
    simp only [slipstickref01_Right.l0]
    rw [w64 (by omega) (by omega), show (i : Int) + 1 = ((i + 1 : Nat) : Int) by omega, rdb_nat, bits_get]
    have mh := mod_half n i
    have hp := Nat.two_pow_pos i
    refine Ev.pos (by omega) ?_
    cases hcc : c
    · subst hcc
      have h0 : n % 2 ^ i = 0 := by simpa using hc
      refine Ev.neg (by simp) (Ev.pos (by omega) (Ev.pos (by omega) (ih (i + 1) _ (by omega) ?_)))
      cases hb : n.testBit i
      · rw [hb] at mh; simp at mh; simp [mh, h0]
      · rw [hb] at mh; simp at mh
        symm; apply decide_eq_true; omega
    · subst hcc
      have h0 : n % 2 ^ i ≠ 0 := by simpa using hc.symm
      refine Ev.pos rfl (ih (i + 1) _ (by omega) ?_)
      symm; apply decide_eq_true; omega

theorem rright_ev (n : Nat) (k : Int) (hn : nlen n ≤ 100000000) : Ev (fun j => slipstickref01_Right.f j (bts n) k) (bts (rightN n k), rightL n k) := by
  unfold slipstickref01_Right.f rightN rightL
  have hl : (bts n).length = nlen n := rfl
  have hm : mn (mx k 0) ((bts n).length : Int) = ((min k.toNat (nlen n) : Nat) : Int) := by
    rw [show mx k 0 = ((k.toNat : Nat) : Int) by unfold mx; split <;> omega, hl, mn_nat]
  rw [hm]
  have e1 : n / 2 ^ k.toNat = n / 2 ^ (min k.toNat (nlen n)) := by
    by_cases h : k.toNat ≤ nlen n
    · rw [Nat.min_eq_left h]
    · rw [Nat.min_eq_right (by omega), Nat.div_eq_of_lt (lt_nlen _), Nat.div_eq_of_lt (nlen_le_iff.1 (by omega))]
  have e2 : n % 2 ^ k.toNat = n % 2 ^ (min k.toNat (nlen n)) := by
    by_cases h : k.toNat ≤ nlen n
    · rw [Nat.min_eq_left h]
    · rw [Nat.min_eq_right (by omega), Nat.mod_eq_of_lt (lt_nlen _), Nat.mod_eq_of_lt (nlen_le_iff.1 (by omega))]
  rw [e1, e2]
  exact rright_loop n _ (by omega) hn _ 0 false (Nat.zero_add _) (by simp [Nat.mod_one])

/-! Mul -/
theorem rmul_loop (a b : Nat) (ha : nlen a ≤ 1000000) (hb : nlen b ≤ 1000000) (d : Nat) : ∀ (i : Nat) (out : List Bool), i + d = nlen b → out = bts (a * (b % 2 ^ i)) →
    Ev (fun k => slipstickref01_Mul.l0 k (bts a) (bts b) out (i : Int)) (bts (a * b)) := by
  have hl : (bts b).length = nlen b := rfl
  induction d with
  | zero =>
    intro i out hi ho
    obtain rfl : i = nlen b := by omega
    refine Ev.succ ?_
    simp only [slipstickref01_Mul.l0]
    rw [ho, Nat.mod_eq_of_lt (lt_nlen b)]
    exact Ev.neg (by omega) (Ev.done _)
  | succ d ih =>
    intro i out hi ho
    refine Ev.succ ?_
    simp only [slipstickref01_Mul.l0]
    rw [w64 (by omega) (by omega), show (i : Int) + 1 = ((i + 1 : Nat) : Int) by omega, rdb_nat, bits_get]
    have mh := mod_half b i
    have hlen : ∀ x, x ≤ 2 ^ i → nlen (a * x) ≤ 2000000 := by
      intro x hx
      by_cases h0 : a = 0
      · subst h0; rw [Nat.zero_mul, nlen_zero]; omega
      · have := nlen_mono (Nat.mul_le_mul_left a hx)
        rw [nlen_mul_pow h0] at this; omega
    refine Ev.pos (by omega) (Ev.pos (by omega) ?_)
    cases hbit : b.testBit i
    · refine Ev.neg (by simp) (ih (i + 1) _ (by omega) ?_)
      rw [hbit] at mh; simp at mh
      rw [ho, mh]
    · have l1 := hlen (b % 2 ^ i) (Nat.le_of_lt (Nat.mod_lt _ (Nat.two_pow_pos i)))
      have l2 := hlen (2 ^ i) (Nat.le_refl _)
      refine Ev.pos rfl (Ev.bind0 (rleft_eq a (i : Int) (by omega) (by omega) (by omega)) ?_)
      rw [Int.toNat_natCast, ho]
      refine Ev.bind (radd_ev (show nlen _ ≤ _ by omega) (show nlen _ ≤ _ by omega)) ?_
      rw [bv_bits, bv_bits]
      refine ih (i + 1) _ (by omega) ?_
      rw [hbit] at mh; simp at mh
      rw [mh, Nat.mul_add]

theorem rmul_ev {a b : Nat} (ha : nlen a ≤ 1000000) (hb : nlen b ≤ 1000000) : Ev (fun k => slipstickref01_Mul.f k (bts a) (bts b)) (bts (a * b)) :=
  rmul_loop a b ha hb (nlen b) 0 [] (by omega) (by rw [Nat.pow_zero, Nat.mod_one, Nat.mul_zero, bits_zero])

end Go.Proofs.Ytgccgmpfcnhbgaa.N
