/- The plain law of NatParts: what the walk computes is true, for all inputs. -/
import Derived.Test.YtgccgmpfcnhbgaaN11
import Derived.Test.YtgccgmpfcnhbgaaPx3
import Derived.Test.YtgccgmpfcnhbgaaPx4
import Derived.Test.YtgccgmpfcnhbgaaPx12
import Derived.Test.YtgccgmpfcnhbgaaPx0
set_option linter.unusedVariables false
namespace Go.Proofs.Ytgccgmpfcnhbgaa.N
open Go.RowKit Go.Proofs.Ytgccgmpfcnhbgaa.P Go.Proofs.YtgccgmpfcnhbgaaW.PrintWords Go.Proofs.YtgccgmpfcnhbgaaW.PrintMore Sk

theorem tz_bit {n : Nat} (h : n ≠ 0) : n.testBit (tz n) = true := by
  obtain ⟨m, e, hm⟩ := tz_split h
  have h := Nat.testBit_two_pow_mul (i := tz n) (a := m) (j := tz n)
  rw [← e] at h
  rw [h]; simp [hm]

theorem nv_part1 {n : Nat} (h : nlen n ≤ 3000000) : Ok (parts n) ∧ (parts n).length ≤ 100000 ∧ nv (parts n) = n := ⟨Ok_parts n, tlen h (by omega), nv_parts n⟩

theorem one_left (k : Nat) (hk : k ≤ 1000) : Ev (fun j => nat_Nat_Left.f j (parts 1) (k : Int)) (parts (2 ^ k), 0) := by
  have e1 : nlen 1 = 1 := by rw [nlen_pos (by omega), show 1 / 2 = 0 from rfl, nlen_zero]
  have h := left_ev (Ok_parts 1) (tlen (n := 1) (k := 1) (by omega) (by omega)) (k : Int) (by omega) (by omega)
  rw [nv_parts] at h
  have e : leftR 1 (k : Int) = (parts (2 ^ k), 0) := by
    unfold leftR
    rw [if_neg (by omega), if_neg (by omega), Int.toNat_natCast, Nat.one_mul]
  rwa [e] at h
theorem of_one : Ev (fun k => nat_Of.f k 1) (parts 1) := of_ev (n := 1) (by omega) (by omega)
theorem nlen_two_pow (k : Nat) : nlen (2 ^ k) = k + 1 := nlen_eq (Nat.le_refl _) (Nat.pow_lt_pow_right (by omega) (by omega))

theorem NatParts : slipsticklaw01_NatParts.Pure := by
  intro l0 n m0 r0 w0 wn
  have o0 := ok_of_wf w0
  have hn := wf_u16 wn
  clear m0 r0 w0 wn
  refine Ev.ex (g := fun k => slipsticklaw01_NatParts.f k l0 n) ?_
  unfold slipsticklaw01_NatParts.f
  refine Ev.bind awake1 (Ev.pos rfl ?_)
  by_cases h : (l0.length : Int) > 24
  · exact Ev.pos h (Ev.done _)
  · refine Ev.neg h ?_
    have n0 := nlen_nv o0
    rw [show (800 : Int) = ((800 : Nat) : Int) from rfl, tmod_nat n hn.1, w64 (by omega) (by omega)]
    generalize hk : n.toNat % 800 = k
    have hk8 : k < 800 := by omega
    generalize hA : nv l0 = A at *
    have a1 := right_ev o0 (by omega) (k : Int); rw [hA] at a1
    rw [show rightN A (k : Int) = A / 2 ^ k by unfold rightN; rw [Int.toNat_natCast], show rightL A (k : Int) = decide (A % 2 ^ k ≠ 0) by unfold rightL; rw [Int.toNat_natCast]] at a1
    refine Ev.bind a1 ?_
    have nr : nlen (A / 2 ^ k) ≤ nlen A := nlen_mono (Nat.div_le_self _ _)
    have a2 := left_ev (Ok_parts (A / 2 ^ k)) (tlen (n := A / 2 ^ k) (k := 1000) (by omega) (by omega)) (k : Int) (by omega) (by omega); rw [nv_parts] at a2
    have e2 : leftR (A / 2 ^ k) (k : Int) = (parts (A / 2 ^ k * 2 ^ k), 0) := by
      unfold leftR
      rw [if_neg (by omega), if_neg (by omega), Int.toNat_natCast]
    rw [e2] at a2
    refine Ev.bind a2 ?_
    have hle : A / 2 ^ k * 2 ^ k ≤ A := Nat.div_mul_le_self A _
    have nl : nlen (A / 2 ^ k * 2 ^ k) ≤ nlen A := nlen_mono hle
    have hdm := Nat.div_add_mod A (2 ^ k)
    have hmod := Nat.mod_lt A (Nat.two_pow_pos k)
    have es : A - A / 2 ^ k * 2 ^ k = A % 2 ^ k := by rw [Nat.mul_comm] at hle ⊢; omega
    have a3 := sub_ev o0 (Ok_parts (A / 2 ^ k * 2 ^ k)) (by omega) (tlen (n := A / 2 ^ k * 2 ^ k) (k := 1000) (by omega) (by omega))
    rw [nv_parts, hA, if_neg (by omega), es] at a3
    refine Ev.bind a3 (Ev.bind of_one (Ev.bind (one_left k (by omega)) ?_))
    dsimp only
    refine Ev.pos rfl (Ev.pos rfl (Ev.pos rfl ?_))
    have nm : nlen (A % 2 ^ k) ≤ nlen A := nlen_mono (Nat.mod_le _ _)
    have lm := tlen (n := A % 2 ^ k) (k := 1000) (by omega) (by omega)
    have lp := tlen (n := 2 ^ k) (k := 1000) (by rw [nlen_two_pow]; omega) (by omega)
    have c1 := cmp_ev (Ok_parts (A % 2 ^ k)) (Ok_parts (2 ^ k)) (by omega) (by omega); rw [nv_parts, nv_parts, sg_lt hmod] at c1
    have l1 := len_ev (Ok_parts (A % 2 ^ k)) (by omega); rw [nv_parts] at l1
    refine Ev.bind c1 (Ev.neg (by omega) (Ev.bind l1 ?_))
    have ez : (decide (A % 2 ^ k ≠ 0) != decide (((nlen (A % 2 ^ k) : Nat) : Int) > 0)) = false := by
      have hz := nlen_eq_zero (n := A % 2 ^ k)
      by_cases h0 : A % 2 ^ k = 0
      · rw [decide_eq_false (by simpa using h0), decide_eq_false (by omega)]; rfl
      · rw [decide_eq_true h0, decide_eq_true (by omega)]; rfl
    rw [ez]
    refine Ev.succ ?_
    simp only [slipsticklaw01_NatParts.j0]
    have hz := nlen_eq_zero (n := A)
    have l2 := len_ev o0 (by omega); rw [hA] at l2
    refine Ev.neg (by simp) (Ev.bind of_one (Ev.bind l2 (Ev.bind (one_left (nlen A) (by omega)) ?_)))
    dsimp only
    have lq := tlen (n := 2 ^ nlen A) (k := 1000) (by rw [nlen_two_pow]; omega) (by omega)
    have c2 := cmp_ev o0 (Ok_parts (2 ^ nlen A)) (by omega) (by omega); rw [nv_parts, hA, sg_lt (lt_nlen A)] at c2
    refine Ev.pos rfl (Ev.bind c2 (Ev.pos (by omega) (Ev.bind l2 ?_)))
    by_cases h0 : A = 0
    · exact Ev.pos (by omega) (Ev.done _)
    · refine Ev.neg (by omega) (Ev.bind l2 ?_)
      rw [w64 (by omega) (by omega)]
      refine Ev.bind0 (bit_eq o0 _ (by omega)) ?_
      have et : ((nlen A : Int) - 1).toNat = nlen A - 1 := by omega
      rw [hA, et, testBit_top h0, if_pos ⟨by omega, rfl⟩]
      have z := zeros_ev o0 (by omega); rw [hA] at z
      have tl := tz_lt_nlen h0
      refine Ev.pos rfl (Ev.bind z (Ev.bind0 (bit_eq o0 _ (by omega)) ?_))
      rw [hA, Int.toNat_natCast, tz_bit h0, if_pos ⟨by omega, rfl⟩]
      exact Ev.done _
end Go.Proofs.Ytgccgmpfcnhbgaa.N
