/- The contracts of dyad's inner functions wide and level, for all numbers of at most a thousand parts that may be taken. -/
import Derived.Test.YtlaffgojgfdlnaaS1
set_option linter.unusedVariables false
set_option linter.unusedSimpArgs false
set_option linter.constructorNameAsVariable false
set_option maxRecDepth 100000
set_option maxHeartbeats 4000000
namespace Go.Proofs.Ytlaffgojgfdlnaa.A
open Go.RowKit Go.Proofs.Ytlaffgojgfdlnaa.P Go.Proofs.YtlaffgojgfdlnaaW.PrintWords Go.Proofs.YtlaffgojgfdlnaaW.PrintMore Go.Proofs.Ytlaffgojgfdlnaa.N Sk Dy
theorem beq_len0 {n : Nat} : ((nlen n : Int) == 0) = decide (n = 0) := by
  by_cases h : n = 0
  · subst h; rw [nlen_zero]; rfl
  · rw [decide_eq_false h, beq_eq_false_iff_ne]; have := nlen_eq_zero (n := n); omega
theorem bmax (x y : Int) : (if y > x then y else x) = max x y := by split <;> omega
theorem bmin (x y : Int) : (if y < x then y else x) = min x y := by split <;> omega
theorem plain_few_e {a : Dy} (h : Exs a.e) (hl : nlen a.n ≤ 31000) : -100000 ≤ a.plain.e ∧ a.plain.e ≤ 131000 := by
  unfold Exs at h
  by_cases h0 : a.n = 0
  · rw [plain_zero h0]; exact ⟨by show _ ≤ (0 : Int); omega, by show (0 : Int) ≤ _; omega⟩
  · have h3 := tz_lt_nlen h0
    rw [plain_pos h0]; dsimp only; omega
theorem dA_zero : dA Dy.zero = [.b false, .v .u32 [], .i .i64 0] := by show [AA.b false, .v .u32 (parts 0), .i .i64 0] = _; rw [parts_zero]
section
variable {la lb : List Int} {na nb : Bool} {ea eb : Int} {a b : Dy}
theorem wide_snd (ha : Ok la) (hb : Ok lb) (hla : la.length ≤ 1000) (hlb : lb.length ≤ 1000) (ea' : a = ⟨na, nv la, ea⟩) (eb' : b = ⟨nb, nv lb, eb⟩) (ma : a.may = true) (mb : b.may = true) :
    Snd Try.prog 49 [.g (dL na la ea), .g (dL nb lb eb)] (.a (.b (decide (far a b)))) := by
  have pa := plain_snd (neg := na) (e := ea) ha hla (may_exs (ea' ▸ ma))
  have pb := plain_snd (neg := nb) (e := eb) hb hlb (may_exs (eb' ▸ mb))
  rw [← ea'] at pa
  rw [← eb'] at pb
  have ba := plain_bounds ma
  have bb := plain_bounds mb
  have l1 := len_snd' (n := a.plain.n) (show nlen _ ≤ 31000 by omega)
  have l2 := len_snd' (n := b.plain.n) (show nlen _ ≤ 31000 by omega)
  refine snd_of ttOk mixed Try.func49 Try.ntmps49 rfl (by kernel_rfl) rfl ?_
  have z1 := beq_len0 (n := a.plain.n)
  have z2 := beq_len0 (n := b.plain.n)
  by_cases h1 : a.n = 0
  · rw [decide_eq_true (plain_n.2 h1)] at z1
    repeat (conv => whnf); first | refine br_tt ?_ | refine br_ff ?_ | refine br_t z1 ?_ | refine ⟨_, pa, ?_⟩ | refine ⟨_, pb, ?_⟩ | refine ⟨_, l1, ?_⟩ | refine And.intro (by kernel_rfl) ?_
    rw [decide_eq_false (fun f => f.1 h1)]
    rfl
  · rw [decide_eq_false (fun e => h1 (plain_n.1 e))] at z1
    by_cases h2 : b.n = 0
    · rw [decide_eq_true (plain_n.2 h2)] at z2
      repeat (conv => whnf); first | refine br_tt ?_ | refine br_ff ?_ | refine br_f z1 ?_ | refine br_t z2 ?_ | refine ⟨_, pa, ?_⟩ | refine ⟨_, pb, ?_⟩ | refine ⟨_, l1, ?_⟩ | refine ⟨_, l2, ?_⟩ | refine And.intro (by kernel_rfl) ?_
      rw [decide_eq_false (fun f => f.2.1 h2)]
      rfl
    · rw [decide_eq_false (fun e => h2 (plain_n.1 e))] at z2
      repeat (conv => whnf); first | refine br_tt ?_ | refine br_ff ?_ | refine br_f z1 ?_ | refine br_f z2 ?_ | refine ⟨_, pa, ?_⟩ | refine ⟨_, pb, ?_⟩ | refine ⟨_, l1, ?_⟩ | refine ⟨_, l2, ?_⟩ | refine And.intro (by kernel_rfl) ?_
      show AV.a (.b (decide (IntKind.wrap .i64 ((if IntKind.wrap .i64 (b.plain.e + nlen b.plain.n) > IntKind.wrap .i64 (a.plain.e + nlen a.plain.n) then IntKind.wrap .i64 (b.plain.e + nlen b.plain.n) else IntKind.wrap .i64 (a.plain.e + nlen a.plain.n)) - (if b.plain.e < a.plain.e then b.plain.e else a.plain.e)) > 8192))) = _
      rw [wI (x := a.plain.e + _) (by omega) (by omega), wI (x := b.plain.e + _) (by omega) (by omega), bmax, bmin, wI (by omega) (by omega)]
      congr 2
      unfold far
      simp [h1, h2]
/-! level -/
theorem left_snd' {n : Nat} (h : Few n) {k : Int} (h0 : 0 ≤ k) (h1 : nlen n + k ≤ 16384) (h2 : k ≤ 16384) : Snd Try.prog 66 [.a (nA n), .a (iA k)] (.t [.a (nA (n * 2 ^ k.toNat)), .a (iA 0)]) := by
  have := left_snd (few_ok h).1 (by have := (few_ok h).2; omega) k (by omega) (by omega)
  rw [nv_parts] at this
  unfold leftR at this
  rw [if_neg (by omega), if_neg (by omega)] at this
  exact this
theorem level_snd (ha : Ok la) (hb : Ok lb) (hla : la.length ≤ 1000) (hlb : lb.length ≤ 1000) (ea' : a = ⟨na, nv la, ea⟩) (eb' : b = ⟨nb, nv lb, eb⟩) (xa : Exs ea) (xb : Exs eb)
    (la' : nlen a.n ≤ 16000) (lb' : nlen b.n ≤ 16000)
    (hr : a.plain.n ≠ 0 → b.plain.n ≠ 0 → (nlen a.plain.n : Int) + (a.plain.e - min a.plain.e b.plain.e) ≤ 16384 ∧ (nlen b.plain.n : Int) + (b.plain.e - min a.plain.e b.plain.e) ≤ 16384) :
    Snd Try.prog 39 [.g (dL na la ea), .g (dL nb lb eb)] (.t [.a (nA (lev a b).1), .a (nA (lev a b).2.1), .a (iA (lev a b).2.2)]) := by
  have pa := plain_snd (neg := na) (e := ea) ha hla xa
  have pb := plain_snd (neg := nb) (e := eb) hb hlb xb
  rw [← ea'] at pa
  rw [← eb'] at pb
  have fa := few_plain (show Few a.n by show nlen _ ≤ 31000; omega)
  have fb := few_plain (show Few b.n by show nlen _ ≤ 31000; omega)
  have l1 := len_snd' fa
  have l2 := len_snd' fb
  have pl1 := plain_nlen_le a
  have pl2 := plain_nlen_le b
  refine snd_of ttOk mixed Try.func39 Try.ntmps39 rfl (by kernel_rfl) rfl ?_
  have z1 := beq_len0 (n := a.plain.n)
  have z2 := beq_len0 (n := b.plain.n)
  unfold lev
  by_cases h1 : a.plain.n = 0
  · rw [decide_eq_true h1] at z1
    repeat (conv => whnf); first | refine br_tt ?_ | refine br_ff ?_ | refine br_t z1 ?_ | refine ⟨_, pa, ?_⟩ | refine ⟨_, pb, ?_⟩ | refine ⟨_, l1, ?_⟩ | refine And.intro (by kernel_rfl) ?_
    rw [if_pos h1]
    show AV.t [.a (.v .u32 []), .a (nA b.plain.n), .a (iA b.plain.e)] = AV.t [.a (.v .u32 (parts 0)), .a (nA b.plain.n), .a (iA b.plain.e)]
    rw [parts_zero]
  rw [decide_eq_false h1] at z1
  rw [if_neg h1]
  by_cases h2 : b.plain.n = 0
  · rw [decide_eq_true h2] at z2
    repeat (conv => whnf); first | refine br_tt ?_ | refine br_ff ?_ | refine br_f z1 ?_ | refine br_t z2 ?_ | refine ⟨_, pa, ?_⟩ | refine ⟨_, pb, ?_⟩ | refine ⟨_, l1, ?_⟩ | refine ⟨_, l2, ?_⟩ | refine And.intro (by kernel_rfl) ?_
    rw [if_pos h2]
    show AV.t [.a (nA a.plain.n), .a (.v .u32 []), .a (iA a.plain.e)] = AV.t [.a (nA a.plain.n), .a (.v .u32 (parts 0)), .a (iA a.plain.e)]
    rw [parts_zero]
  rw [decide_eq_false h2] at z2
  rw [if_neg h2]
  obtain ⟨r1, r2⟩ := hr h1 h2
  have sa := plain_few_e (a := a) (by rw [ea']; exact xa) (by omega)
  have sb := plain_few_e (a := b) (by rw [eb']; exact xb) (by omega)
  have c1 := left_snd' fa (k := a.plain.e - min a.plain.e b.plain.e) (by omega) (by omega) (by omega)
  have c2 := left_snd' fb (k := b.plain.e - min a.plain.e b.plain.e) (by omega) (by omega) (by omega)
  have w1 : IntKind.wrap .i64 (a.plain.e - (if b.plain.e < a.plain.e then b.plain.e else a.plain.e)) = a.plain.e - min a.plain.e b.plain.e := by rw [bmin, wI (by omega) (by omega)]
  have w2 : IntKind.wrap .i64 (b.plain.e - (if b.plain.e < a.plain.e then b.plain.e else a.plain.e)) = b.plain.e - min a.plain.e b.plain.e := by rw [bmin, wI (by omega) (by omega)]
  rw [← w1] at c1
  rw [← w2] at c2
  repeat (conv => whnf); first | refine br_tt ?_ | refine br_ff ?_ | refine br_f z1 ?_ | refine br_f z2 ?_ | refine ⟨_, pa, ?_⟩ | refine ⟨_, pb, ?_⟩ | refine ⟨_, l1, ?_⟩ | refine ⟨_, l2, ?_⟩ | refine ⟨_, c1, ?_⟩ | refine ⟨_, c2, ?_⟩ | refine And.intro (by kernel_rfl) ?_
  show AV.t [.a (nA (a.plain.n * 2 ^ (IntKind.wrap .i64 (a.plain.e - (if b.plain.e < a.plain.e then b.plain.e else a.plain.e))).toNat)), .a (nA (b.plain.n * 2 ^ (IntKind.wrap .i64 (b.plain.e - (if b.plain.e < a.plain.e then b.plain.e else a.plain.e))).toNat)), .a (iA (if b.plain.e < a.plain.e then b.plain.e else a.plain.e))] = _
  rw [w1, w2, bmin]
  rfl
end
end Go.Proofs.Ytlaffgojgfdlnaa.A
