/- The plain laws of NatBack and NatTurned: what the walks compute is true, for all inputs. -/
import Derived.Test.YtgccgmpfcnhbgaaN10
import Derived.Test.YtgccgmpfcnhbgaaPx11
import Derived.Test.YtgccgmpfcnhbgaaPx0
set_option linter.unusedVariables false
namespace Go.Proofs.Ytgccgmpfcnhbgaa.N
open Go.RowKit Go.Proofs.Ytgccgmpfcnhbgaa.P Go.Proofs.YtgccgmpfcnhbgaaW.PrintWords Go.Proofs.YtgccgmpfcnhbgaaW.PrintMore Sk

/-! the same functions at told numbers -/
theorem tlen {n k : Nat} (h : nlen n ≤ k) (hk : k ≤ 3000000) : (parts n).length ≤ 100000 := by have := plen' h; omega

theorem tmod_nat (x : Int) (h : 0 ≤ x) (m : Nat) : Int.tmod x (m : Int) = ((x.toNat % m : Nat) : Int) := by
  obtain ⟨n, rfl⟩ : ∃ n : Nat, x = n := ⟨x.toNat, by omega⟩
  rw [Int.toNat_natCast]; rfl

theorem NatBack : slipsticklaw01_NatBack.Pure := by
  intro l0 l1 l2 n m0 r0 w0 m1 r1 w1 m2 r2 w2 wn
  have o0 := ok_of_wf w0
  have o1 := ok_of_wf w1
  have o2 := ok_of_wf w2
  have hn := wf_u16 wn
  clear m0 r0 w0 m1 r1 w1 m2 r2 w2 wn
  refine Ev.ex (g := fun k => slipsticklaw01_NatBack.f k l0 l1 l2 n) ?_
  unfold slipsticklaw01_NatBack.f
  refine Ev.bind awake1 (Ev.pos rfl ?_)
  have j : ∀ b, (b = false → l0.length ≤ 24 ∧ l1.length ≤ 24 ∧ l2.length ≤ 24) → Ev (fun k => slipsticklaw01_NatBack.j0 k l0 l1 l2 n b) true := by
    intro b hb
    refine Ev.succ ?_
    simp only [slipsticklaw01_NatBack.j0]
    cases b with
    | true => exact Ev.pos rfl (Ev.done _)
    | false =>
      obtain ⟨h0, h1, h2⟩ := hb rfl
      have n0 := nlen_nv o0
      have n1 := nlen_nv o1
      have n2 := nlen_nv o2
      generalize hA : nv l0 = A at *
      generalize hB : nv l1 = B at *
      generalize hC : nv l2 = C at *
      have ns := nlen_add_le A B
      have nsc := nlen_mul_le (A + B) C
      have nac := nlen_mul_le A C
      have nbc := nlen_mul_le B C
      have ls := tlen (n := A + B) (k := 800) (by omega) (by omega)
      have lsc := tlen (n := (A + B) * C) (k := 2000) (by omega) (by omega)
      have lac := tlen (n := A * C) (k := 2000) (by omega) (by omega)
      have lbc := tlen (n := B * C) (k := 2000) (by omega) (by omega)
      rw [show (4000 : Int) = ((4000 : Nat) : Int) from rfl, tmod_nat n hn.1, w64 (by omega) (by omega)]
      generalize hk : n.toNat % 4000 = k
      have hk4 : k < 4000 := by omega
      refine Ev.neg (by simp) ?_
      have a1 := add_ev o0 o1 (by omega) (by omega); rw [hA, hB] at a1
      refine Ev.bind a1 ?_
      have a2 := sub_ev (Ok_parts (A + B)) o1 ls (by omega); rw [nv_parts, hB, if_neg (by omega)] at a2
      refine Ev.bind a2 ?_
      have a3 := mul_ev (Ok_parts (A + B)) o2 ls (by omega); rw [nv_parts, hC, if_neg (by omega)] at a3
      refine Ev.bind a3 ?_
      have a4 := mul_ev o0 o2 (by omega) (by omega); rw [hA, hC, if_neg (by omega)] at a4
      refine Ev.bind a4 ?_
      have a5 := mul_ev o1 o2 (by omega) (by omega); rw [hB, hC, if_neg (by omega)] at a5
      refine Ev.bind a5 ?_
      have a6 := left_ev o0 (by omega) (k : Int) (by omega) (by omega); rw [hA] at a6
      have e6 : leftR A (k : Int) = (parts (A * 2 ^ k), 0) := by
        unfold leftR
        rw [if_neg (by omega), if_neg (by omega), Int.toNat_natCast]
      rw [e6] at a6
      refine Ev.bind a6 ?_
      have nl : nlen (A * 2 ^ k) ≤ 5000 := by
        by_cases h : A = 0
        · subst h; rw [Nat.zero_mul, nlen_zero]; omega
        · rw [nlen_mul_pow h]; omega
      have ll := tlen (n := A * 2 ^ k) (k := 5000) (by omega) (by omega)
      have a7 := right_ev (Ok_parts (A * 2 ^ k)) ll (k : Int)
      have e7 : rightN (A * 2 ^ k) (k : Int) = A := by unfold rightN; rw [Int.toNat_natCast, Nat.mul_div_cancel _ (Nat.two_pow_pos k)]
      have e8 : rightL (A * 2 ^ k) (k : Int) = false := by unfold rightL; rw [Int.toNat_natCast, Nat.mul_mod_left]; rfl
      rw [nv_parts, e7, e8] at a7
      refine Ev.bind a7 ?_
      dsimp only
      have pA := parts_len o0; rw [hA] at pA
      have c1 := cmp_ev (Ok_parts (A + B - B)) o0 (by rw [Nat.add_sub_cancel]; omega) (by omega); rw [nv_parts, hA, Nat.add_sub_cancel, sg_eq] at c1
      rw [Nat.add_sub_cancel]
      refine Ev.pos rfl (Ev.bind c1 (Ev.pos rfl (Ev.pos rfl (Ev.pos rfl (Ev.pos rfl ?_)))))
      have a9 := add_ev (Ok_parts (A * C)) (Ok_parts (B * C)) lac lbc; rw [nv_parts, nv_parts, ← Nat.add_mul] at a9
      refine Ev.bind a9 ?_
      have c2 := cmp_ev (Ok_parts ((A + B) * C)) (Ok_parts ((A + B) * C)) (by omega) (by omega); rw [sg_eq] at c2
      refine Ev.bind c2 (Ev.pos rfl (Ev.pos rfl ?_))
      have c3 := cmp_ev (Ok_parts A) o0 (by omega) (by omega); rw [nv_parts, hA, sg_eq] at c3
      exact Ev.bind c3 (Ev.pos rfl (Ev.done _))
  by_cases h : (l0.length : Int) > 24
  · exact Ev.pos h (j true (fun e => by cases e))
  · refine Ev.neg h ?_
    by_cases h1 : (l1.length : Int) > 24
    · exact Ev.pos h1 (j true (fun e => by cases e))
    · exact Ev.neg h1 (j _ (fun e => by have := of_decide_eq_false e; omega))

theorem NatTurned : slipsticklaw01_NatTurned.Pure := by
  intro l0 l1 l2 m0 r0 w0 m1 r1 w1 m2 r2 w2
  have o0 := ok_of_wf w0
  have o1 := ok_of_wf w1
  have o2 := ok_of_wf w2
  clear m0 r0 w0 m1 r1 w1 m2 r2 w2
  refine Ev.ex (g := fun k => slipsticklaw01_NatTurned.f k l0 l1 l2) ?_
  unfold slipsticklaw01_NatTurned.f
  refine Ev.bind awake1 (Ev.pos rfl ?_)
  have j : ∀ b, (b = false → l0.length ≤ 24 ∧ l1.length ≤ 24 ∧ l2.length ≤ 24) → Ev (fun k => slipsticklaw01_NatTurned.j0 k l0 l1 l2 b) true := by
    intro b hb
    refine Ev.succ ?_
    simp only [slipsticklaw01_NatTurned.j0]
    cases b with
    | true => exact Ev.pos rfl (Ev.done _)
    | false =>
      obtain ⟨h0, h1, h2⟩ := hb rfl
      have n0 := nlen_nv o0
      have n1 := nlen_nv o1
      have n2 := nlen_nv o2
      generalize hA : nv l0 = A at *
      generalize hB : nv l1 = B at *
      generalize hC : nv l2 = C at *
      have nab := nlen_mul_le A B
      have nbc := nlen_mul_le B C
      have nabc := nlen_mul_le (A * B) C
      have sab := nlen_add_le A B
      have sbc := nlen_add_le B C
      have sabc := nlen_add_le (A + B) C
      have lab := tlen (n := A * B) (k := 2000) (by omega) (by omega)
      have lbc := tlen (n := B * C) (k := 2000) (by omega) (by omega)
      have labc := tlen (n := A * B * C) (k := 3000) (by omega) (by omega)
      have tab := tlen (n := A + B) (k := 2000) (by omega) (by omega)
      have tbc := tlen (n := B + C) (k := 2000) (by omega) (by omega)
      have tabc := tlen (n := A + B + C) (k := 2000) (by omega) (by omega)
      refine Ev.neg (by simp) ?_
      have a1 := mul_ev o0 o1 (by omega) (by omega); rw [hA, hB, if_neg (by omega)] at a1
      refine Ev.bind a1 ?_
      have a2 := mul_ev o1 o0 (by omega) (by omega); rw [hA, hB, if_neg (by omega), Nat.mul_comm] at a2
      refine Ev.bind a2 ?_
      have a3 := mul_ev (Ok_parts (A * B)) o2 lab (by omega); rw [nv_parts, hC, if_neg (by omega)] at a3
      refine Ev.bind a3 ?_
      have a4 := mul_ev o1 o2 (by omega) (by omega); rw [hB, hC, if_neg (by omega)] at a4
      refine Ev.bind a4 ?_
      have a5 := mul_ev o0 (Ok_parts (B * C)) (by omega) lbc; rw [nv_parts, hA, if_neg (by omega), ← Nat.mul_assoc] at a5
      refine Ev.bind a5 ?_
      dsimp only
      refine Ev.pos rfl (Ev.pos rfl (Ev.pos rfl (Ev.pos rfl (Ev.pos rfl ?_))))
      have c1 := cmp_ev (Ok_parts (A * B)) (Ok_parts (A * B)) (by omega) (by omega); rw [sg_eq] at c1
      have c2 := cmp_ev (Ok_parts (A * B * C)) (Ok_parts (A * B * C)) (by omega) (by omega); rw [sg_eq] at c2
      refine Ev.bind c1 (Ev.pos rfl (Ev.bind c2 (Ev.pos rfl ?_)))
      have a6 := add_ev o0 o1 (by omega) (by omega); rw [hA, hB] at a6
      have a7 := add_ev o1 o0 (by omega) (by omega); rw [hA, hB, Nat.add_comm] at a7
      have c3 := cmp_ev (Ok_parts (A + B)) (Ok_parts (A + B)) (by omega) (by omega); rw [sg_eq] at c3
      refine Ev.bind a6 (Ev.bind a7 (Ev.bind c3 (Ev.pos rfl (Ev.bind a6 ?_))))
      have a8 := add_ev (Ok_parts (A + B)) o2 (by omega) (by omega); rw [nv_parts, hC] at a8
      have a9 := add_ev o1 o2 (by omega) (by omega); rw [hB, hC] at a9
      have a10 := add_ev o0 (Ok_parts (B + C)) (by omega) (by omega); rw [nv_parts, hA, ← Nat.add_assoc] at a10
      have c4 := cmp_ev (Ok_parts (A + B + C)) (Ok_parts (A + B + C)) (by omega) (by omega); rw [sg_eq] at c4
      exact Ev.bind a8 (Ev.bind a9 (Ev.bind a10 (Ev.bind c4 (Ev.done _))))
  by_cases h : (l0.length : Int) > 24
  · exact Ev.pos h (j true (fun e => by cases e))
  · refine Ev.neg h ?_
    by_cases h1 : (l1.length : Int) > 24
    · exact Ev.pos h1 (j true (fun e => by cases e))
    · exact Ev.neg h1 (j _ (fun e => by have := of_decide_eq_false e; omega))
end Go.Proofs.Ytgccgmpfcnhbgaa.N
