/- The plain laws of NatTells and NatShifts: what the walks compute is true, for all inputs. -/
import Derived.Test.YtgccgmpfcnhbgaaN9
import Derived.Test.YtgccgmpfcnhbgaaPx9
import Derived.Test.YtgccgmpfcnhbgaaPx10
import Derived.Test.YtgccgmpfcnhbgaaPx0
set_option linter.unusedVariables false
namespace Go.Proofs.Ytgccgmpfcnhbgaa.N
open Go.RowKit Go.Proofs.Ytgccgmpfcnhbgaa.P Go.Proofs.YtgccgmpfcnhbgaaW.PrintWords Go.Proofs.YtgccgmpfcnhbgaaW.PrintMore Sk

theorem wf_i64 {x : Int} (h : (Lit.int .i64 x).wf = true) : -9223372036854775808 ≤ x ∧ x < 9223372036854775808 := by
  simp [Lit.wf, IntKind.min, IntKind.max, IntKind.signed, IntKind.bits] at h
  omega
theorem wf_u64 {x : Int} (h : (Lit.int .u64 x).wf = true) : 0 ≤ x ∧ x < 18446744073709551616 := by
  simp [Lit.wf, IntKind.min, IntKind.max, IntKind.signed, IntKind.bits] at h
  omega
theorem wf_u16 {x : Int} (h : (Lit.int .u16 x).wf = true) : 0 ≤ x ∧ x < 65536 := by
  simp [Lit.wf, IntKind.min, IntKind.max, IntKind.signed, IntKind.bits] at h
  omega

theorem NatTells : slipsticklaw01_NatTells.Pure := by
  intro l0 i n m0 r0 w0 wi wn
  have o0 := ok_of_wf w0
  have hi := wf_i64 wi
  have hn := wf_u64 wn
  clear m0 r0 w0 wi wn
  refine Ev.ex (g := fun k => slipsticklaw01_NatTells.f k l0 i n) ?_
  unfold slipsticklaw01_NatTells.f
  refine Ev.bind awake1 (Ev.pos rfl ?_)
  by_cases h : (l0.length : Int) > 24
  · exact Ev.pos h (Ev.done _)
  · have n0 := nlen_nv o0
    have e0 : (bts (nv l0)).length = nlen (nv l0) := rfl
    refine Ev.neg h (Ev.bind (rof_ev o0 (by omega)) (Ev.bind0 (rbit_eq _ _) ?_))
    rw [bits_get]
    have j : ∀ b : Int, b = (if 0 ≤ i ∧ (nv l0).testBit i.toNat = true then 1 else 0) → Ev (fun k => slipsticklaw01_NatTells.j0 k l0 i n (bts (nv l0)) b) true := by
      intro b hb
      refine Ev.succ ?_
      simp only [slipsticklaw01_NatTells.j0]
      refine Ev.bind (word_ev o0 (by omega)) (Ev.bind (rfull_ev _ (by omega)) (Ev.bind (len_ev o0 (by omega)) (Ev.pos (by rw [e0]) (Ev.bind0 (bit_eq o0 i hi.2) (Ev.pos hb.symm ?_)))))
      refine Ev.bind (zeros_ev o0 (by omega)) (Ev.bind (rzeros_ev _ (by omega)) (Ev.pos rfl (Ev.pos rfl (Ev.pos rfl ?_))))
      have hl : (parts n.toNat).length ≤ 2 := parts_length_le (by omega)
      have hl2 : nlen n.toNat ≤ 64 := nlen64 (by omega)
      refine Ev.bind (of_ev hn.1 hn.2) (Ev.bind (rword_ev hn.1 hn.2) (Ev.bind (rparts_ev (by omega)) (Ev.bind (rsame_ev (by omega)) ?_)))
      rw [decide_eq_true rfl]
      exact Ev.done _
    by_cases hb : 0 ≤ i ∧ (nv l0).testBit i.toNat = true
    · exact Ev.pos (by simp [hb]) (j 1 (by rw [if_pos hb]))
    · exact Ev.neg (by simpa using hb) (j 0 (by rw [if_neg hb]))

theorem NatShifts : slipsticklaw01_NatShifts.Pure := by
  intro l0 n m0 r0 w0 wn
  have o0 := ok_of_wf w0
  have hn := wf_i64 wn
  clear m0 r0 w0 wn
  refine Ev.ex (g := fun k => slipsticklaw01_NatShifts.f k l0 n) ?_
  unfold slipsticklaw01_NatShifts.f
  refine Ev.bind awake1 (Ev.pos rfl ?_)
  by_cases h : (l0.length : Int) > 24
  · exact Ev.pos h (Ev.done _)
  · have n0 := nlen_nv o0
    have e0 : (bts (nv l0)).length = nlen (nv l0) := rfl
    have hz := nlen_eq_zero (n := nv l0)
    have hr : nlen (rightN (nv l0) n) ≤ nlen (nv l0) := nlen_mono (Nat.div_le_self _ _)
    have pr := plen' hr
    refine Ev.neg h (Ev.bind (rof_ev o0 (by omega)) (Ev.bind (left_ev o0 (by omega) n hn.1 hn.2) (Ev.bind (right_ev o0 (by omega) n) (Ev.bind (rright_ev _ n (by omega)) ?_))))
    dsimp only
    refine Ev.bind (rparts_ev (by omega)) (Ev.bind (rsame_ev (by omega)) (Ev.pos (by simp) ?_))
    rw [bne_self_eq_false]
    refine Ev.succ ?_
    simp only [slipsticklaw01_NatShifts.j0]
    refine Ev.neg (by simp) ?_
    unfold leftR
    by_cases h1 : n < 0
    · rw [if_pos h1]
      exact Ev.pos h1 (Ev.pos rfl (Ev.done _))
    · rw [if_neg h1]
      have j : ∀ b : Bool, (b = true ↔ nv l0 ≠ 0 ∧ (nlen (nv l0) : Int) + n > 16384) →
          Ev (fun k => slipsticklaw01_NatShifts.j1 k n (bts (nv l0)) (if nv l0 ≠ 0 ∧ (nlen (nv l0) : Int) + n > 16384 then (([] : List Int), (6 : Int)) else (parts (nv l0 * 2 ^ n.toNat), 0)).1 (if nv l0 ≠ 0 ∧ (nlen (nv l0) : Int) + n > 16384 then (([] : List Int), (6 : Int)) else (parts (nv l0 * 2 ^ n.toNat), 0)).2 b) true := by
        intro b hb
        refine Ev.succ ?_
        simp only [slipsticklaw01_NatShifts.j1]
        by_cases h2 : nv l0 ≠ 0 ∧ (nlen (nv l0) : Int) + n > 16384
        · rw [if_pos h2]
          exact Ev.pos (hb.2 h2) (Ev.pos rfl (Ev.done _))
        · rw [if_neg h2]
          dsimp only
          refine Ev.neg (fun e => h2 (hb.1 e)) (Ev.pos (by simp) ?_)
          by_cases h3 : nv l0 = 0
          · rw [h3, Nat.zero_mul, parts_zero, bits_zero]
            exact Ev.pos rfl (Ev.pos rfl (Ev.done _))
          · have hl : nlen (nv l0 * 2 ^ n.toNat) ≤ 16384 := by rw [nlen_mul_pow h3]; omega
            have pl := plen' hl
            refine Ev.neg (by omega) (Ev.bind0 (rleft_eq _ n (by omega) (by omega) (by omega)) (Ev.bind (rparts_ev (by omega)) (Ev.bind (rsame_ev (by omega)) ?_)))
            rw [decide_eq_true rfl]
            exact Ev.done _
      refine Ev.neg h1 ?_
      by_cases h3 : ((bts (nv l0)).length : Int) > 0
      · rw [w64 (x := 16384 - ((bts (nv l0)).length : Int)) (by omega) (by omega)]
        exact Ev.pos h3 (j _ ⟨fun e => by have := of_decide_eq_true e; omega, fun e => decide_eq_true (by omega)⟩)
      · exact Ev.neg h3 (j false ⟨fun e => (by cases e), fun e => by omega⟩)
end Go.Proofs.Ytgccgmpfcnhbgaa.N
