/- What nat.Add and nat.Sub compute, for all lists of 32-bit parts of at most a hundred thousand parts. -/
import Derived.Test.YtgccgmpfcnhbgaaN2
import Derived.Test.YtgccgmpfcnhbgaaPx2
import Derived.Test.YtgccgmpfcnhbgaaPx0
namespace Go.Proofs.Ytgccgmpfcnhbgaa.N
open Go.RowKit Go.Proofs.Ytgccgmpfcnhbgaa.P Go.Proofs.YtgccgmpfcnhbgaaW.PrintWords Go.Proofs.YtgccgmpfcnhbgaaW.PrintMore Sk

/-! ### Mul -/
theorem rd_nat (l : List Int) (i : Nat) : rd l (i : Int) = l.getD i 0 := by unfold rd; rw [Int.toNat_natCast]
theorem nlen_nv {l : List Int} (h : Ok l) : nlen (nv l) ≤ 32 * l.length := nlen_le (by rw [← B_pow]; exact nv_lt h)
theorem alg_mul {o o' P r0 c x y q r T Y : Nat} (h1 : o' + P * r0 = o + P * q) (h2 : o + P * c = T) (h3 : c + (x * y + r0) = q + 4294967296 * r) (hY : Y = P * (x * y)) :
    o' + P * 4294967296 * r = T + Y := by
  have e : P * (c + (x * y + r0)) = P * (q + 4294967296 * r) := by rw [h3]
  simp only [Nat.mul_add] at e
  rw [Nat.mul_assoc]
  omega

theorem mul_inner {A B : List Int} (hB : Ok B) (lB : B.length ≤ 100000) (lA : A.length ≤ 100000) (i : Nat) (hi : i < A.length) (x : Nat) (hx : x < 4294967296) (S : Nat) (r : List Int × Int)
    (cont : ∀ out' : List Int, out'.length = A.length + B.length → Ok out' → (∀ j, i + 1 + B.length ≤ j → out'.getD j 0 = 0) → nv out' = S + 4294967296 ^ i * x * nv B →
      Ev (fun k => nat_Mul.l0 k B out' A (A.length : Int) ((i + 1 : Nat) : Int)) r) (d : Nat) :
    ∀ (j : Nat) (out : List Int) (c : Nat), j + d = B.length → out.length = A.length + B.length → Ok out → (∀ m, i + B.length ≤ m → out.getD m 0 = 0) → c < 4294967296 →
      nv out + 4294967296 ^ (i + j) * c = S + 4294967296 ^ i * x * (nv B % 4294967296 ^ j) →
      Ev (fun k => nat_Mul.l1 k B out (i : Int) (x : Int) (c : Int) A (A.length : Int) (i : Int) B (B.length : Int) (j : Int)) r := by
  induction d with
  | zero =>
    intro j out c hj hl ho hz hc hv
    obtain rfl : j = B.length := by omega
    refine Ev.succ ?_
    simp only [nat_Mul.l1]
    rw [w64 (x := (i : Int) + (B.length : Int)) (by omega) (by omega), w64 (x := (i : Int) + 1) (by omega) (by omega), show (i : Int) + (B.length : Int) = ((i + B.length : Nat) : Int) by omega, show (c : Int) % 4294967296 = (c : Int) by omega, show (i : Int) + 1 = ((i + 1 : Nat) : Int) by omega]
    refine Ev.neg (by omega) (Ev.pos (by omega) (Ev.pos (by omega) ?_))
    rw [Int.toNat_natCast]
    have hset := nv_set out (i + B.length) (c : Int) (by omega)
    rw [hz _ (Nat.le_refl _), Int.toNat_natCast] at hset
    refine cont _ (by simp [hl]) (ok_set (v := (c : Int)) ho _ (by omega) (by omega)) ?_ ?_
    · intro m hm
      rw [getD_set _ _ _ _ (by omega), if_neg (by omega)]
      exact hz m (by omega)
    · rw [Nat.mod_eq_of_lt (nv_lt hB)] at hv
      simp only [Int.toNat_zero, Nat.mul_zero, Nat.add_zero] at hset
      omega
  | succ d ih =>
    intro j out c hj hl ho hz hc hv
    refine Ev.succ ?_
    simp only [nat_Mul.l1]
    rw [w64 (x := (i : Int) + (j : Int)) (by omega) (by omega), w64 (x := (j : Int) + 1) (by omega) (by omega), show (i : Int) + (j : Int) = ((i + j : Nat) : Int) by omega, show (j : Int) + 1 = ((j + 1 : Nat) : Int) by omega]
    refine Ev.pos (by omega) (Ev.pos (by omega) (Ev.pos (by omega) (Ev.pos (by omega) (Ev.pos (by omega) ?_))))
    rw [Int.toNat_natCast, rd_nat B j, rd_nat out (i + j)]
    have gB := hB.get j
    have go := ho.get (i + j)
    have eB := nv_get hB j
    have mB := mod_step (nv B) j
    have hset := nv_set out (i + j)
    generalize hy : nv B / 4294967296 ^ j % 4294967296 = y at *
    rw [← eB]
    obtain ⟨r0, hr0⟩ : ∃ r0 : Nat, out.getD (i + j) 0 = (r0 : Int) := ⟨(out.getD (i + j) 0).toNat, by omega⟩
    rw [hr0] at go ⊢
    simp only [hr0, Int.toNat_natCast] at hset
    have hxy : x * y ≤ 4294967295 * 4294967295 := Nat.mul_le_mul (by omega) (by omega)
    rw [u64w (x := (x : Int)) (by omega) (by omega), u64w (x := (y : Int)) (by omega) (by omega), u64w (x := (r0 : Int)) (by omega) (by omega), show (x : Int) * (y : Int) = ((x * y : Nat) : Int) by simp,
      u64w (x := ((x * y : Nat) : Int)) (by omega) (by omega), u64w (x := ((x * y : Nat) : Int) + (r0 : Int)) (by omega) (by omega), u64w (by omega) (by omega)]
    generalize hw : x * y = w at *
    rw [show ((c : Int) + ((w : Int) + (r0 : Int))) % 4294967296 = (((c + (w + r0)) % 4294967296 : Nat) : Int) by omega, show ((c : Int) + ((w : Int) + (r0 : Int))) / 4294967296 = (((c + (w + r0)) / 4294967296 : Nat) : Int) by omega]
    have hset2 := hset (((c + (w + r0)) % 4294967296 : Nat) : Int) (by omega)
    rw [Int.toNat_natCast] at hset2
    refine ih (j + 1) _ _ (by omega) (by simp [hl]) (ok_set ho _ (by omega) (by omega)) ?_ (by omega) ?_
    · intro m hm
      rw [getD_set _ _ _ _ (by omega), if_neg (by omega)]
      exact hz m hm
    · rw [mB, show i + (j + 1) = i + j + 1 by omega, Nat.pow_succ]
      have h3 : c + (w + r0) = (c + (w + r0)) % 4294967296 + 4294967296 * ((c + (w + r0)) / 4294967296) := by omega
      rw [← hw] at h3 hset2 ⊢
      have := alg_mul hset2 hv h3 (Y := 4294967296 ^ (i + j) * (x * y)) rfl
      rw [this, Nat.mul_add, Nat.pow_add]
      have e : 4294967296 ^ i * 4294967296 ^ j * (x * y) = 4294967296 ^ i * x * (4294967296 ^ j * y) := by
        generalize 4294967296 ^ i = p
        generalize 4294967296 ^ j = q
        grind
      rw [e]; omega

theorem mul_outer {A B : List Int} (hA : Ok A) (hB : Ok B) (lA : A.length ≤ 100000) (lB : B.length ≤ 100000) (d : Nat) :
    ∀ (i : Nat) (out : List Int), i + d = A.length → out.length = A.length + B.length → Ok out → (∀ j, i + B.length ≤ j → out.getD j 0 = 0) → nv out = (nv A % 4294967296 ^ i) * nv B →
      Ev (fun k => nat_Mul.l0 k B out A (A.length : Int) (i : Int)) (parts (nv A * nv B), 0) := by
  induction d with
  | zero =>
    intro i out hi hl ho hz hv
    obtain rfl : i = A.length := by omega
    refine Ev.succ ?_
    simp only [nat_Mul.l0]
    refine Ev.neg (by omega) (Ev.bind (told_ev ho (by omega)) ?_)
    rw [hv, Nat.mod_eq_of_lt (nv_lt hA)]
    exact Ev.done _
  | succ d ih =>
    intro i out hi hl ho hz hv
    refine Ev.succ ?_
    simp only [nat_Mul.l0]
    refine Ev.pos (by omega) (Ev.pos (by omega) (Ev.pos (by omega) ?_))
    have ea := nv_get hA i
    have ma := mod_step (nv A) i
    rw [show rd A (i : Int) = A.getD i 0 by simp [rd], ← ea]
    have hx : nv A / 4294967296 ^ i % 4294967296 < 4294967296 := by omega
    generalize nv A / 4294967296 ^ i % 4294967296 = x at *
    refine mul_inner hB lB lA i (by omega) x hx ((nv A % 4294967296 ^ i) * nv B) _ (fun out' h1 h2 h3 h4 => ih (i + 1) out' (by omega) h1 h2 h3 ?_) B.length 0 out 0 (by omega) hl ho hz (by omega) ?_
    · rw [h4, ma, Nat.add_mul]
    · rw [hv]; simp [Nat.mod_one]

theorem mul_ev {a b : List Int} (ha : Ok a) (hb : Ok b) (la : a.length ≤ 100000) (lb : b.length ≤ 100000) :
    Ev (fun k => nat_Mul.f k a b) (if nlen (nv a) + nlen (nv b) > 16384 then (([] : List Int), 6) else (parts (nv a * nv b), 0)) := by
  unfold nat_Mul.f
  refine Ev.bind (len_ev ha (by omega)) (Ev.bind (len_ev hb (by omega)) ?_)
  have h1 := nlen_nv ha
  have h2 := nlen_nv hb
  rw [w64 (x := (nlen (nv a) : Int) + (nlen (nv b) : Int)) (by omega) (by omega)]
  by_cases h : nlen (nv a) + nlen (nv b) > 16384
  · rw [if_pos h]; exact Ev.pos (by omega) (Ev.done _)
  · rw [if_neg h]
    refine Ev.neg (by omega) (Ev.bind (trim_ev ha (by omega)) (Ev.bind (trim_ev hb (by omega)) ?_))
    have p1 := parts_len ha
    have p2 := parts_len hb
    rw [w64 (by omega) (by omega), show ((parts (nv a)).length : Int) + ((parts (nv b)).length : Int) = (((parts (nv a)).length + (parts (nv b)).length : Nat) : Int) by omega]
    refine Ev.pos (by omega) (Ev.pos (by omega) ?_)
    rw [Int.toNat_natCast]
    have := mul_outer (Ok_parts (nv a)) (Ok_parts (nv b)) (by omega) (by omega) (parts (nv a)).length 0 (List.replicate ((parts (nv a)).length + (parts (nv b)).length) 0) (by omega) (by simp) (ok_zeros _) (fun j _ => getD_zeros _ _) (by rw [nv_replicate]; simp [Nat.mod_one])
    rwa [nv_parts, nv_parts] at this

end Go.Proofs.Ytgccgmpfcnhbgaa.N
