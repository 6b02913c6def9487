/- The contracts of reference 2 for numbers laid at a place, turned, multiplied and added, for all numbers of at most a thousand parts. -/
import Derived.Test.YtlaffgojgfdlnaaGreatS10
set_option linter.unusedVariables false
set_option linter.unusedSimpArgs false
set_option linter.constructorNameAsVariable false
set_option maxRecDepth 100000
set_option maxHeartbeats 4000000
namespace Go.Proofs.YtlaffgojgfdlnaaGreat.A
open Go.RowKit Go.Proofs.YtlaffgojgfdlnaaGreat.P Go.Proofs.YtlaffgojgfdlnaaGreatW.PrintWords Go.Proofs.YtlaffgojgfdlnaaGreatW.PrintMore Go.Proofs.YtlaffgojgfdlnaaGreat.N Sk Dy
theorem rat_snd {d : Dy} {E : Int} (hn : nlen d.n ≤ 1000000) (he : -10000000 ≤ d.e ∧ d.e ≤ 10000000) (hE : -10000000 ≤ E ∧ E ≤ d.e) : Snd Tryz.prog 81 [.g (eA d), .a (iA E)] (.a (bA (d.dv E))) := by
  have w : (if (0 : Int) > IntKind.wrap .i64 (d.e - E) then 0 else IntKind.wrap .i64 (d.e - E)) = d.e - E := by rw [wI (by omega) (by omega)]; split <;> omega
  have c := rleft_snd (n := d.n) (k := d.e - E) (by omega) (by omega) (by omega)
  rw [← w] at c
  refine snd_of ttOk mixed Tryz.func81 Tryz.ntmps81 rfl (by kernel_rfl) rfl ?_
  repeat (conv => whnf); first | refine ⟨_, c, ?_⟩ | refine br_tt ?_ | refine br_ff ?_ | refine And.intro (by kernel_rfl) ?_
  show AV.a (bA (d.n * 2 ^ (if (0 : Int) > IntKind.wrap .i64 (d.e - E) then 0 else IntKind.wrap .i64 (d.e - E)).toNat)) = _
  rw [w]; rfl
theorem rmul2_snd (a b : Dy) : Snd Tryz.prog 41 [.g (eA a), .g (eA b)] (sA (Dy.mul a b)) := by
  have va := rmay_snd a
  have vb := rmay_snd b
  refine snd_of ttOk mixed Tryz.func41 Tryz.ntmps41 rfl (by kernel_rfl) rfl ?_
  by_cases ma : a.may = true
  case neg =>
    rw [Bool.not_eq_true] at ma
    rw [show Dy.mul a b = (Dy.zero, 3) from if_neg (fun h => by rw [ma] at h; exact absurd h.1 (by simp)), sA_zero]
    rw [ma] at va
    repeat (conv => whnf); first | refine ⟨_, va, ?_⟩ | refine br_tt ?_ | refine br_ff ?_ | refine And.intro (by kernel_rfl) ?_
    rfl
  by_cases mb : b.may = true
  case neg =>
    rw [Bool.not_eq_true] at mb
    rw [show Dy.mul a b = (Dy.zero, 3) from if_neg (fun h => by rw [mb] at h; exact absurd h.2 (by simp)), sA_zero]
    rw [ma] at va
    rw [mb] at vb
    repeat (conv => whnf); first | refine ⟨_, va, ?_⟩ | refine ⟨_, vb, ?_⟩ | refine br_tt ?_ | refine br_ff ?_ | refine And.intro (by kernel_rfl) ?_
    rfl
  have ba := may_iff.1 ma
  have bb := may_iff.1 mb
  have hm := nlen_mul_le a.n b.n
  have c1 := rmul_snd (m := a.n) (n := b.n) (by omega) (by omega)
  have w : IntKind.wrap .i64 (a.e + b.e) = a.e + b.e := wI (by omega) (by omega)
  have c2 := rtold_snd (d := ⟨!(a.neg == b.neg), a.n * b.n, a.e + b.e⟩) (by dsimp only; omega) (by dsimp only; omega)
  rw [← w] at c2
  rw [show Dy.mul a b = told ⟨!(a.neg == b.neg), a.n * b.n, a.e + b.e⟩ from if_pos ⟨ma, mb⟩, ← w]
  rw [ma] at va
  rw [mb] at vb
  repeat (conv => whnf); first | refine ⟨_, va, ?_⟩ | refine ⟨_, vb, ?_⟩ | refine ⟨_, c1, ?_⟩ | refine ⟨_, c2, ?_⟩ | refine br_tt ?_ | refine br_ff ?_ | refine And.intro (by kernel_rfl) ?_
  rfl
theorem radd2_snd (a b : Dy) : Snd Tryz.prog 42 [.g (eA a), .g (eA b)] (sA (Dy.add a b)) := by
  have va := rmay_snd a
  have vb := rmay_snd b
  refine snd_of ttOk mixed Tryz.func42 Tryz.ntmps42 rfl (by kernel_rfl) rfl ?_
  by_cases ma : a.may = true
  case neg =>
    rw [Bool.not_eq_true] at ma
    rw [show Dy.add a b = (Dy.zero, 3) from if_neg (fun h => by rw [ma] at h; exact absurd h.1 (by simp)), sA_zero]
    rw [ma] at va
    repeat (conv => whnf); first | refine ⟨_, va, ?_⟩ | refine br_tt ?_ | refine br_ff ?_ | refine And.intro (by kernel_rfl) ?_
    rfl
  by_cases mb : b.may = true
  case neg =>
    rw [Bool.not_eq_true] at mb
    rw [show Dy.add a b = (Dy.zero, 3) from if_neg (fun h => by rw [mb] at h; exact absurd h.2 (by simp)), sA_zero]
    rw [ma] at va
    rw [mb] at vb
    repeat (conv => whnf); first | refine ⟨_, va, ?_⟩ | refine ⟨_, vb, ?_⟩ | refine br_tt ?_ | refine br_ff ?_ | refine And.intro (by kernel_rfl) ?_
    rfl
  have ba := may_iff.1 ma
  have bb := may_iff.1 mb
  have e1 : Dy.add a b = told (if a.n = 0 then b else if b.n = 0 then a else Dy.sum a b) := if_pos ⟨ma, mb⟩
  rw [ma] at va
  rw [mb] at vb
  have z1 := beq_blen (n := a.n)
  have z2 := beq_blen (n := b.n)
  by_cases h1 : a.n = 0
  · rw [decide_eq_true h1] at z1
    rw [e1, if_pos h1]
    have c := rtold_snd (d := b) (by omega) (by omega)
    repeat (conv => whnf); first | refine ⟨_, va, ?_⟩ | refine ⟨_, vb, ?_⟩ | refine ⟨_, c, ?_⟩ | refine br_t z1 ?_ | refine br_tt ?_ | refine br_ff ?_ | refine And.intro (by kernel_rfl) ?_
    rfl
  rw [decide_eq_false h1] at z1
  by_cases h2 : b.n = 0
  · rw [decide_eq_true h2] at z2
    rw [e1, if_neg h1, if_pos h2]
    have c := rtold_snd (d := a) (by omega) (by omega)
    repeat (conv => whnf); first | refine ⟨_, va, ?_⟩ | refine ⟨_, vb, ?_⟩ | refine ⟨_, c, ?_⟩ | refine br_f z1 ?_ | refine br_t z2 ?_ | refine br_tt ?_ | refine br_ff ?_ | refine And.intro (by kernel_rfl) ?_
    rfl
  rw [decide_eq_false h2] at z2
  rw [e1, if_neg h1, if_neg h2]
  have da := dv_nlen a (min a.e b.e)
  have db := dv_nlen b (min a.e b.e)
  have i1 := rat_snd (d := a) (E := min a.e b.e) (by omega) (by omega) (by omega)
  have i2 := rat_snd (d := b) (E := min a.e b.e) (by omega) (by omega) (by omega)
  have hmin : (if b.e < a.e then b.e else a.e) = min a.e b.e := bmin _ _
  rw [sum_eq]
  unfold Dy.sumAt
  by_cases hs : a.neg = b.neg
  · have z3 : (a.neg == b.neg) = true := by simp [hs]
    rw [if_pos hs]
    have hl := nlen_add_le (a.dv (min a.e b.e)) (b.dv (min a.e b.e))
    have c1 := radd_snd (m := a.dv (min a.e b.e)) (n := b.dv (min a.e b.e)) (by omega) (by omega)
    have c2 := rtold_snd (d := ⟨a.neg, a.dv (min a.e b.e) + b.dv (min a.e b.e), min a.e b.e⟩) (by dsimp only; omega) (by dsimp only; omega)
    rw [← hmin] at i1 i2 c1 c2
    rw [← hmin]
    repeat (conv => whnf); first | refine ⟨_, va, ?_⟩ | refine ⟨_, vb, ?_⟩ | refine ⟨_, i1, ?_⟩ | refine ⟨_, i2, ?_⟩ | refine ⟨_, c1, ?_⟩ | refine ⟨_, c2, ?_⟩ | refine br_f z1 ?_ | refine br_f z2 ?_ | refine br_t z3 ?_ | refine br_tt ?_ | refine br_ff ?_ | refine And.intro (by kernel_rfl) ?_
    rfl
  have z3 : (a.neg == b.neg) = false := by simp [hs]
  rw [if_neg hs]
  have c0 := rcmp_snd (m := a.dv (min a.e b.e)) (n := b.dv (min a.e b.e)) (by omega) (by omega)
  by_cases hle : b.dv (min a.e b.e) ≤ a.dv (min a.e b.e)
  · have z4 : decide (sg (a.dv (min a.e b.e)) (b.dv (min a.e b.e)) ≥ 0) = true := decide_eq_true (by have := sg_neg (m := a.dv (min a.e b.e)) (n := b.dv (min a.e b.e)); omega)
    rw [if_pos hle]
    have hl := nlen_mono (Nat.sub_le (a.dv (min a.e b.e)) (b.dv (min a.e b.e)))
    have c1 := rsub_snd (m := a.dv (min a.e b.e)) (n := b.dv (min a.e b.e)) (by omega) hle
    have c2 := rtold_snd (d := ⟨a.neg, a.dv (min a.e b.e) - b.dv (min a.e b.e), min a.e b.e⟩) (by dsimp only; omega) (by dsimp only; omega)
    rw [← hmin] at i1 i2 c0 c1 c2 z4
    rw [← hmin]
    repeat (conv => whnf); first | refine ⟨_, va, ?_⟩ | refine ⟨_, vb, ?_⟩ | refine ⟨_, i1, ?_⟩ | refine ⟨_, i2, ?_⟩ | refine ⟨_, c0, ?_⟩ | refine ⟨_, c1, ?_⟩ | refine ⟨_, c2, ?_⟩ | refine br_f z1 ?_ | refine br_f z2 ?_ | refine br_f z3 ?_ | refine br_t z4 ?_ | refine br_tt ?_ | refine br_ff ?_ | refine And.intro (by kernel_rfl) ?_
    rfl
  · have z4 : decide (sg (a.dv (min a.e b.e)) (b.dv (min a.e b.e)) ≥ 0) = false := decide_eq_false (by have := sg_neg (m := a.dv (min a.e b.e)) (n := b.dv (min a.e b.e)); omega)
    rw [if_neg hle]
    have hl := nlen_mono (Nat.sub_le (b.dv (min a.e b.e)) (a.dv (min a.e b.e)))
    have c1 := rsub_snd (m := b.dv (min a.e b.e)) (n := a.dv (min a.e b.e)) (by omega) (by omega)
    have c2 := rtold_snd (d := ⟨b.neg, b.dv (min a.e b.e) - a.dv (min a.e b.e), min a.e b.e⟩) (by dsimp only; omega) (by dsimp only; omega)
    rw [← hmin] at i1 i2 c0 c1 c2 z4
    rw [← hmin]
    repeat (conv => whnf); first | refine ⟨_, va, ?_⟩ | refine ⟨_, vb, ?_⟩ | refine ⟨_, i1, ?_⟩ | refine ⟨_, i2, ?_⟩ | refine ⟨_, c0, ?_⟩ | refine ⟨_, c1, ?_⟩ | refine ⟨_, c2, ?_⟩ | refine br_f z1 ?_ | refine br_f z2 ?_ | refine br_f z3 ?_ | refine br_f z4 ?_ | refine br_tt ?_ | refine br_ff ?_ | refine And.intro (by kernel_rfl) ?_
    rfl
end Go.Proofs.YtlaffgojgfdlnaaGreat.A
