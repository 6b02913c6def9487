/- The mathematics of the laws IeeeTurned, IeeeOne, IeeeUnit and IeeeAgain, for all bits of the three formats. -/
import Derived.Test.YtlaffgojgfdlnaaN51
import Derived.Test.YtlaffgojgfdlnaaPx0
set_option linter.unusedVariables false
namespace Go.Proofs.Ytlaffgojgfdlnaa.N
open Go.RowKit Go.Proofs.Ytlaffgojgfdlnaa.P Go.Proofs.YtlaffgojgfdlnaaW.PrintWords Go.Proofs.YtlaffgojgfdlnaaW.PrintMore Sk
open Dy
/-! ### The laws of ieee's sums and products -/
namespace Fm
section
variable {f : Fm} {a b c : Nat} {mode : Int}
theorem mayE_swap (mode : Int) (a b : Nat) : f.mayE mode [a, b] = f.mayE mode [b, a] := by
  unfold mayE; simp only [List.all_cons, List.all_nil, Bool.and_true]; rw [Bool.and_comm]
theorem mayE_mid (mode : Int) (a b : Nat) (hc : c < 2 ^ (f.p + f.w)) : f.mayE mode [a, c, b] = f.mayE mode [a, b] := by
  unfold mayE; simp only [List.all_cons, List.all_nil, Bool.and_true]; rw [decide_eq_true hc, Bool.true_and]
theorem mayE_end (mode : Int) (a b : Nat) (hc : c < 2 ^ (f.p + f.w)) : f.mayE mode [a, b, c] = f.mayE mode [a, b] := by
  unfold mayE; simp only [List.all_cons, List.all_nil, Bool.and_true]; rw [decide_eq_true hc, Bool.and_true]
theorem sumR_ii (h1 : f.cl a = 3) (h2 : f.cl b = 3) (e : a ≠ b) : f.sumR mode a b = (f.non, 16, 0) := if_pos ⟨h1, h2, e⟩
theorem sumR_i (h1 : f.cl a = 3) (h2 : f.cl b = 3 → a = b) : f.sumR mode a b = (a, 0, 0) := by
  unfold sumR; rw [if_neg (fun k => k.2.2 (h2 k.2.1)), if_pos h1]
theorem sumR_j (h1 : ¬ f.cl a = 3) (h2 : f.cl b = 3) : f.sumR mode a b = (b, 0, 0) := by
  unfold sumR; rw [if_neg (fun k => h1 k.1), if_neg h1, if_pos h2]
theorem sumR_f (h1 : ¬ f.cl a = 3) (h2 : ¬ f.cl b = 3) : f.sumR mode a b = f.rto mode (add (f.val a).1 (f.val b).1).1 (if f.cl a = 0 ∧ a = b then f.sn a else decide (mode = 2)) := by
  unfold sumR; rw [if_neg (fun k => h1 k.1), if_neg h1, if_neg h2]
theorem sum_turn (mode : Int) (a b : Nat) : f.sumR mode a b = f.sumR mode b a := by
  by_cases e : a = b
  · subst e; rfl
  by_cases h1 : f.cl a = 3
  · by_cases h2 : f.cl b = 3
    · rw [sumR_ii h1 h2 e, sumR_ii h2 h1 (fun k => e k.symm)]
    · rw [sumR_i h1 (fun k => absurd k h2), sumR_j h2 h1]
  · by_cases h2 : f.cl b = 3
    · rw [sumR_j h1 h2, sumR_i h2 (fun k => absurd k h1)]
    · rw [sumR_f h1 h2, sumR_f h2 h1, add_comm', if_neg (show ¬ (f.cl a = 0 ∧ a = b) from fun k => e k.2), if_neg (show ¬ (f.cl b = 0 ∧ b = a) from fun k => e k.2.symm)]
theorem noneR_two (ha : f.cl a < 4) (hb : f.cl b < 4) : f.noneR [a, b] = (0, 0, false) := noneR_num (by intro x hx; simp at hx; rcases hx with rfl | rfl <;> assumption)
theorem add_turn (mode : Int) (ha : f.cl a < 4) (hb : f.cl b < 4) : f.addR mode a b = f.addR mode b a := by
  unfold addR
  rw [mayE_swap mode b a, noneR_two ha hb, noneR_two hb ha, sum_turn]
theorem vain_turn (a b : Nat) : f.vain a b = f.vain b a := by unfold vain; exact decide_eq_decide.2 (by omega)
theorem mul_turn (mode : Int) (ha : f.cl a < 4) (hb : f.cl b < 4) : f.mulR mode a b = f.mulR mode b a := by
  have hn : (f.sn a != f.sn b) = (f.sn b != f.sn a) := by cases f.sn a <;> cases f.sn b <;> rfl
  have ho : (f.cl a = 3 ∨ f.cl b = 3) ↔ (f.cl b = 3 ∨ f.cl a = 3) := or_comm
  unfold mulR
  rw [mayE_swap mode b a, noneR_two ha hb, noneR_two hb ha, vain_turn b a, mul_comm' (f.val b).1, hn]
  by_cases h : f.cl a = 3 ∨ f.cl b = 3
  · simp only [if_pos h, if_pos (ho.1 h)]
  · simp only [if_neg h, if_neg (fun k => h (ho.2 k))]
theorem sub_turned (h : f.ok) (mode : Int) (hb : b < 2 ^ (f.p + f.w)) (h1 : f.cl a < 4) (h2 : f.cl b < 4) : f.subR mode a b = f.addR mode a (f.trn b) := by
  obtain ⟨t1, t2, t3, t4⟩ := trn_facts h hb
  have e : f.mayE mode [a, b] = f.mayE mode [a, f.trn b] := by
    unfold mayE; simp only [List.all_cons, List.all_nil, Bool.and_true]; rw [decide_eq_true hb, decide_eq_true t1]
  unfold subR addR
  rw [e, noneR_two h1 h2, noneR_two h1 (by omega)]
theorem noneR_mid (hc : f.cl c < 4) : f.noneR [a, c, b] = f.noneR [a, b] := by
  unfold noneR
  simp only [List.foldl_cons, List.foldl_nil]
  rw [nstep_skip hc]
theorem noneR_end (hc : f.cl c < 4) : f.noneR [a, b, c] = f.noneR [a, b] := by
  unfold noneR
  simp only [List.foldl_cons, List.foldl_nil]
  rw [nstep_skip hc]
theorem nstep_is (r : Nat × Int × Bool) (x : Nat) : (f.nstep r x).2.2 = true ↔ r.2.2 = true ∨ 4 ≤ f.cl x := by
  unfold nstep
  by_cases h : f.cl x < 4
  · rw [if_pos h]; exact ⟨.inl, fun k => k.elim id (fun k => by omega)⟩
  · rw [if_neg h]; exact ⟨fun _ => .inr (by omega), fun _ => rfl⟩
theorem noneR2_is : (f.noneR [a, b]).2.2 = true ↔ 4 ≤ f.cl a ∨ 4 ≤ f.cl b := by
  unfold noneR
  simp only [List.foldl_cons, List.foldl_nil, nstep_is]; simp
theorem numbers (hi : ¬ (f.noneR [a, b]).2.2 = true) : f.cl a < 4 ∧ f.cl b < 4 := by
  have k := mt noneR2_is.2 hi
  omega
theorem noneR3_is : (f.noneR [a, b, c]).2.2 = true ↔ 4 ≤ f.cl a ∨ 4 ≤ f.cl b ∨ 4 ≤ f.cl c := by
  unfold noneR
  simp only [List.foldl_cons, List.foldl_nil, nstep_is]; simp [or_assoc]
/-- What is left of Fma, and of Mul, where there are numbers alone. -/
theorem fmaR_num (hm : f.mayE mode [a, b, c] = 0) (hi : ¬ (f.noneR [a, b, c]).2.2 = true) : f.fmaR mode a b c =
    if f.vain a b = true ∨ ((f.cl a = 3 ∨ f.cl b = 3) ∧ f.cl c = 3 ∧ f.sn c ≠ (f.sn a != f.sn b)) then (f.non, 16, 0) else
    if f.cl a = 3 ∨ f.cl b = 3 then (f.inf (f.sn a != f.sn b), 0, 0) else if f.cl c = 3 then (c, 0, 0) else
    f.rto mode (add (mul (f.val a).1 (f.val b).1).1 (f.val c).1).1
      (if (mul (f.val a).1 (f.val b).1).1.n = 0 ∧ (f.val c).1.n = 0 ∧ f.sn c = (f.sn a != f.sn b) then (f.sn a != f.sn b) else decide (mode = 2)) := by
  unfold fmaR
  rw [if_neg (show ¬ (f.mayE mode [a, b, c] ≠ 0) by simp [hm]), if_neg hi]
theorem mulR_num (hm : f.mayE mode [a, b] = 0) (hi : ¬ (f.noneR [a, b]).2.2 = true) : f.mulR mode a b =
    if f.vain a b = true then (f.non, 16, 0) else if f.cl a = 3 ∨ f.cl b = 3 then (f.inf (f.sn a != f.sn b), 0, 0) else f.rto mode (mul (f.val a).1 (f.val b).1).1 (f.sn a != f.sn b) := by
  unfold mulR
  rw [if_neg (show ¬ (f.mayE mode [a, b] ≠ 0) by simp [hm]), if_neg hi]
theorem addR_num (hm : f.mayE mode [a, b] = 0) (hi : ¬ (f.noneR [a, b]).2.2 = true) : f.addR mode a b = f.sumR mode a b := by
  unfold addR
  rw [if_neg (show ¬ (f.mayE mode [a, b] ≠ 0) by simp [hm]), if_neg hi]
/-- Fma by 1 is Add. -/
theorem fma_one (h : f.ok) (mode : Int) (a b : Nat) : f.addR mode a b = f.fmaR mode a f.one b := by
  obtain ⟨o1, o2, o3, o4, _⟩ := one_facts h
  have em := mayE_mid mode a b o1
  have en : f.noneR [a, f.one, b] = f.noneR [a, b] := noneR_mid (by omega)
  have hv : f.vain a f.one = false := decide_eq_false (by omega)
  by_cases hm : f.mayE mode [a, b] = 0
  case neg =>
    unfold addR fmaR
    rw [em, if_pos hm, if_pos hm]
  obtain ⟨hmo, hl⟩ := mayE_zero hm
  have ha := hl a (by simp)
  have hb := hl b (by simp)
  by_cases hi : (f.noneR [a, b]).2.2 = true
  · unfold addR fmaR
    rw [em, en, hv, if_neg (show ¬ (f.mayE mode [a, b] ≠ 0) by simp [hm]), if_neg (show ¬ (f.mayE mode [a, b] ≠ 0) by simp [hm]), if_pos hi, if_pos hi, if_neg (show ¬ (false = true) by simp)]
  have hs : (f.sn a != f.sn f.one) = f.sn a := by rw [o3]; cases f.sn a <;> rfl
  rw [addR_num hm hi, fmaR_num (by rw [em]; exact hm) (by rw [en]; exact hi), hv, hs]
  by_cases h1 : f.cl a = 3
  · by_cases h2 : f.cl b = 3
    · have ea := inf_eq h ha h1
      have eb := inf_eq h hb h2
      by_cases e : a = b
      · rw [sumR_i h1 (fun _ => e), if_neg (fun k => k.elim (fun k => Bool.noConfusion k) (fun k => k.2.2 (by rw [e]))), if_pos (.inl h1), ← ea]
      · rw [sumR_ii h1 h2 e, if_pos (.inr ⟨.inl h1, h2, fun k => e (by rw [ea, eb, k])⟩)]
    · rw [sumR_i h1 (fun k => absurd k h2), if_neg (fun k => k.elim (fun k => Bool.noConfusion k) (fun k => h2 k.2.1)), if_pos (.inl h1), ← inf_eq h ha h1]
  have h3 : ¬ (f.cl a = 3 ∨ f.cl f.one = 3) := by omega
  by_cases h2 : f.cl b = 3
  · rw [sumR_j h1 h2, if_neg (fun k => k.elim (fun k => Bool.noConfusion k) (fun k => h3 k.1)), if_neg h3, if_pos h2]
  have i1 := numbers hi
  have a2 : f.cl a ≤ 2 := by omega
  have b2 : f.cl b ≤ 2 := by omega
  have za := val_zero ha a2
  have zb := val_zero hb b2
  rw [sumR_f h1 h2, o4, mul_one' (val_plain ha a2) (val_may h a)]
  by_cases e : f.cl a = 0 ∧ a = b
  · rw [if_pos e, if_neg (fun k => k.elim (fun k => Bool.noConfusion k) (fun k => h3 k.1)), if_neg h3, if_neg h2, if_pos ⟨za.2 e.1, zb.2 (by rw [← e.2]; exact e.1), by rw [e.2]⟩]
  · rw [if_neg e, if_neg (fun k => k.elim (fun k => Bool.noConfusion k) (fun k => h3 k.1)), if_neg h3, if_neg h2, if_neg]
    rintro ⟨k1, k2, k3⟩
    have ca := za.1 k1
    have cb := zb.1 k2
    exact e ⟨ca, by rw [zero_eq h ha ca, zero_eq h hb cb, k3]⟩
/-- Fma with a zero of the product's sign is Mul. -/
theorem fma_zero (h : f.ok) (mode : Int) (a b : Nat) : f.mulR mode a b = f.fmaR mode a b (f.bld (f.sn a != f.sn b) 0 0) := by
  obtain ⟨z1, z2, z3, z4⟩ := zero_bits h (f.sn a != f.sn b)
  have em := mayE_end mode a b z1
  have en : f.noneR [a, b, f.bld (f.sn a != f.sn b) 0 0] = f.noneR [a, b] := noneR_end (by omega)
  by_cases hm : f.mayE mode [a, b] = 0
  case neg =>
    unfold mulR fmaR
    rw [em, if_pos hm, if_pos hm]
  by_cases hi : (f.noneR [a, b]).2.2 = true
  · have hv : ¬ f.vain a b = true := by
      have := noneR2_is.1 hi
      unfold vain; rw [decide_eq_true_eq]; omega
    unfold mulR fmaR
    rw [em, en, if_neg (show ¬ (f.mayE mode [a, b] ≠ 0) by simp [hm]), if_neg (show ¬ (f.mayE mode [a, b] ≠ 0) by simp [hm]), if_pos hi, if_pos hi, if_neg hv]
  rw [mulR_num hm hi, fmaR_num (by rw [em]; exact hm) (by rw [en]; exact hi)]
  by_cases hv : f.vain a b = true
  · rw [if_pos hv, if_pos (.inl hv)]
  by_cases h3 : f.cl a = 3 ∨ f.cl b = 3
  · rw [if_neg hv, if_pos h3, if_neg (fun k => k.elim hv (fun k => by have := k.2.1; omega)), if_pos h3]
  obtain ⟨r, er, pr, mr, _⟩ := fin_mul h (a := a) (b := b)
  have zn := (val_zero z1 (by omega)).2 z2
  rw [er]
  dsimp only
  rw [add_zero' pr mr zn (val_may h _), z3]
  rw [if_neg hv, if_neg h3, if_neg (fun k => k.elim hv (fun k => h3 k.1)), if_neg h3, if_neg (by omega)]
  by_cases r0 : r.n = 0
  · rw [if_pos ⟨r0, zn, rfl⟩]
  · exact rto_sign r0 _ _
/-- By 1 a number is itself. -/
theorem unit_mul (h : f.ok) (hm : 0 ≤ mode ∧ mode < 5) (ha : a < 2 ^ (f.p + f.w)) (h4 : f.cl a < 4) : f.mulR mode a f.one = (a, 0, 0) := by
  obtain ⟨o1, o2, o3, o4, _⟩ := one_facts h
  have hs : (f.sn a != f.sn f.one) = f.sn a := by rw [o3]; cases f.sn a <;> rfl
  unfold mulR
  rw [if_neg (by rw [mayE_ok hm (by intro x hx; simp at hx; rcases hx with rfl | rfl <;> assumption)]; simp), noneR_two h4 (by omega), if_neg (by simp), hs]
  rw [if_neg (show ¬ f.vain a f.one = true by unfold vain; rw [decide_eq_true_eq]; omega)]
  by_cases h3 : f.cl a = 3
  · rw [if_pos (.inl h3), ← inf_eq h ha h3]
  · have a2 : f.cl a ≤ 2 := by omega
    rw [if_neg (by omega), o4, mul_one' (val_plain ha a2) (val_may h a), val_raw ha a2]
    exact keeps h ha a2 hm
theorem unit_add (h : f.ok) (hm : 0 ≤ mode ∧ mode < 5) (ha : a < 2 ^ (f.p + f.w)) (h4 : f.cl a < 4) : f.addR mode a (f.bld (f.sn a) 0 0) = (a, 0, 0) := by
  obtain ⟨z1, z2, z3, z4⟩ := zero_bits h (f.sn a)
  unfold addR
  rw [if_neg (by rw [mayE_ok hm (by intro x hx; simp at hx; rcases hx with rfl | rfl <;> assumption)]; simp), noneR_two h4 (by omega), if_neg (by simp)]
  unfold sumR
  rw [if_neg (by omega)]
  by_cases h3 : f.cl a = 3
  · rw [if_pos h3]
  have a2 : f.cl a ≤ 2 := by omega
  rw [if_neg h3, if_neg (by omega), add_zero' (val_plain ha a2) (val_may h a) ((val_zero z1 (by omega)).2 z2) (val_may h _)]
  dsimp only
  have kp := keeps h ha a2 hm
  rw [val_raw ha a2]
  dsimp only
  by_cases h0 : f.cl a = 0
  · rw [if_pos ⟨h0, zero_eq h ha h0⟩]; exact kp
  · have n0 : (f.raw a).plain.n ≠ 0 := fun e => h0 (mg_zero.1 (plain_n.1 e))
    rw [rto_sign n0 _ (f.sn a)]; exact kp
theorem trn_ne (h : f.ok) (ha : a < 2 ^ (f.p + f.w)) : a ≠ f.trn a := fun e => by
  have := (trn_facts h ha).2.2.1
  rw [← e] at this
  cases hs : f.sn a <;> rw [hs] at this <;> cases this
theorem unit_sub (h : f.ok) (hm : 0 ≤ mode ∧ mode < 5) (ha : a < 2 ^ (f.p + f.w)) (h4 : f.cl a < 4) : (f.cl a = 3 → f.subR mode a a = (f.non, 16, 0)) ∧ (f.cl a ≠ 3 → f.subR mode a a = (f.bld (decide (mode = 2)) 0 0, 0, 0)) := by
  obtain ⟨t1, t2, t3, t4⟩ := trn_facts h ha
  have ne := trn_ne h ha
  have e : f.subR mode a a = f.sumR mode a (f.trn a) := by
    unfold subR
    rw [if_neg (by rw [mayE_ok hm (by intro x hx; simp at hx; rw [hx]; exact ha)]; simp), noneR_two h4 h4, if_neg (by simp)]
  rw [e]
  unfold sumR
  refine ⟨fun h3 => by rw [if_pos ⟨h3, by omega, ne⟩], fun h3 => ?_⟩
  rw [if_neg (by omega), if_neg h3, if_neg (by omega), if_neg (fun k => ne k.2)]
  obtain ⟨r, er, pr, mr, vr⟩ := fin_sum h (a := a) (b := f.trn a)
  rw [er]
  have v := vr _ _ _ (val_sg ha (by omega)) (val_sg t1 (by omega))
  have s0 : f.sg a + f.sg (f.trn a) = 0 := by
    unfold sg; rw [t3, t4]; cases f.sn a <;> simp <;> omega
  rw [s0] at v
  exact rto_zero hm mr (v.at.2 rfl) _
theorem non_facts (h : f.ok) : f.non < 2 ^ (f.p + f.w) ∧ f.cl f.non = 4 := by rcases h with rfl | rfl | rfl <;> decide +kernel
theorem qui_facts (h : f.ok) (hb : b < 2 ^ (f.p + f.w)) (h4 : 4 ≤ f.cl b) : f.qui b < 2 ^ (f.p + f.w) ∧ f.cl (f.qui b) = 4 := by
  have hB := bounds h
  have e1 := ex_lt (f := f) (b := b)
  have e2 := fr_lt h (b := b)
  have hp2 : 2 ^ (f.p - 1) = 2 * 2 ^ (f.p - 2) := by rw [← Nat.pow_succ']; congr 1; omega
  have hx : (if f.fr b < 2 ^ (f.p - 2) then f.fr b + 2 ^ (f.p - 2) else f.fr b) < 2 ^ (f.p - 1) ∧ 2 ^ (f.p - 2) ≤ (if f.fr b < 2 ^ (f.p - 2) then f.fr b + 2 ^ (f.p - 2) else f.fr b) := by split <;> omega
  have p := bld_parts h (neg := f.sn b) e1 hx.1
  have hp0 := Nat.two_pow_pos (f.p - 2)
  have ek : ¬ f.ex b = 0 ∧ ¬ f.ex b < 2 ^ f.w - 1 := by
    unfold cl at h4
    split at h4
    · split at h4 <;> omega
    · split at h4
      · omega
      · exact ⟨by assumption, by assumption⟩
  refine ⟨bld_lt h e1 hx.1, ?_⟩
  unfold qui
  unfold cl
  rw [p.2.1, p.2.2, if_neg ek.1, if_neg ek.2, if_neg (by omega), if_pos hx.2]
/-- What the first steps tell of operands of which one is no number. -/
theorem nstep_ok (h : f.ok) {r : Nat × Int × Bool} {x : Nat} (hx : x < 2 ^ (f.p + f.w)) (hr : r.2.2 = true → r.1 < 2 ^ (f.p + f.w) ∧ f.cl r.1 = 4) (hf : r.2.1 = 0 ∨ r.2.1 = 16) :
    ((f.nstep r x).2.2 = true → (f.nstep r x).1 < 2 ^ (f.p + f.w) ∧ f.cl (f.nstep r x).1 = 4) ∧ ((f.nstep r x).2.1 = 0 ∨ (f.nstep r x).2.1 = 16) := by
  unfold nstep
  by_cases h4 : f.cl x < 4
  · rw [if_pos h4]; exact ⟨hr, hf⟩
  · rw [if_neg h4]
    dsimp only
    refine ⟨fun _ => ?_, ?_⟩
    · by_cases k : r.2.2 = true
      · rw [if_pos k]; exact hr k
      · rw [if_neg k]; exact qui_facts h hx (by omega)
    · split
      · exact .inr rfl
      · exact hf
theorem noneR3_ok (h : f.ok) (ha : a < 2 ^ (f.p + f.w)) (hb : b < 2 ^ (f.p + f.w)) (hc : c < 2 ^ (f.p + f.w)) : ((f.noneR [a, b, c]).2.2 = true → (f.noneR [a, b, c]).1 < 2 ^ (f.p + f.w) ∧ f.cl (f.noneR [a, b, c]).1 = 4) ∧ ((f.noneR [a, b, c]).2.1 = 0 ∨ (f.noneR [a, b, c]).2.1 = 16) := by
  have s1 := nstep_ok h (r := (0, 0, false)) ha (fun k => by cases k) (.inl rfl)
  have s2 := nstep_ok h hb s1.1 s1.2
  have s3 := nstep_ok h hc s2.1 s2.2
  unfold noneR
  simp only [List.foldl_cons, List.foldl_nil]
  exact s3
/-- What Fma tells, at all. -/
theorem again (h : f.ok) (mode : Int) (a b c : Nat) :
    (f.fmaR mode a b c = (0, 0, 1) ∧ (mode < 0 ∨ 5 ≤ mode)) ∨ (f.fmaR mode a b c = (0, 0, 3) ∧ 0 ≤ mode ∧ mode < 5) ∨
    (∃ t fl, f.fmaR mode a b c = (t, fl, 0) ∧ t < 2 ^ (f.p + f.w) ∧ (a < 2 ^ (f.p + f.w) ∧ b < 2 ^ (f.p + f.w) ∧ c < 2 ^ (f.p + f.w)) ∧
      (((f.cl a < 4 ∧ f.cl b < 4 ∧ f.cl c < 4) ∧ ((f.cl t = 4 ∧ fl = 16) ∨ (f.cl t ≤ 3 ∧ (fl = 0 ∨ fl = 1 ∨ fl = 3 ∨ fl = 5)))) ∨ (¬ (f.cl a < 4 ∧ f.cl b < 4 ∧ f.cl c < 4) ∧ f.cl t = 4 ∧ (fl = 0 ∨ fl = 16)))) := by
  unfold fmaR
  by_cases hm : f.mayE mode [a, b, c] = 0
  case neg =>
    rw [if_pos hm]
    unfold mayE at hm ⊢
    by_cases k : mode < 0 ∨ 5 ≤ mode
    · rw [if_pos k]; exact .inl ⟨rfl, k⟩
    · rw [if_neg k] at hm ⊢
      split at hm
      · exact absurd rfl hm
      · rename_i k2; rw [if_neg k2]; exact .inr (.inl ⟨rfl, by omega, by omega⟩)
  rw [if_neg (show ¬ (f.mayE mode [a, b, c] ≠ 0) by simp [hm])]
  obtain ⟨hmo, hl⟩ := mayE_zero hm
  have ha := hl a (by simp)
  have hb := hl b (by simp)
  have hc := hl c (by simp)
  right; right
  obtain ⟨n1, n2⟩ := noneR3_ok h ha hb hc
  by_cases hi : (f.noneR [a, b, c]).2.2 = true
  · rw [if_pos hi]
    have k := noneR3_is.1 hi
    refine ⟨_, _, rfl, (n1 hi).1, ⟨ha, hb, hc⟩, .inr ⟨by omega, (n1 hi).2, ?_⟩⟩
    split
    · exact .inr rfl
    · exact n2
  rw [if_neg hi]
  have hnum : f.cl a < 4 ∧ f.cl b < 4 ∧ f.cl c < 4 := by
    have k := mt noneR3_is.2 hi
    omega
  have nf := non_facts h
  split
  · exact ⟨_, _, rfl, nf.1, ⟨ha, hb, hc⟩, .inl ⟨hnum, .inl ⟨nf.2, rfl⟩⟩⟩
  split
  · obtain ⟨g1, g2, g3⟩ := inf_cl h (f.sn a != f.sn b)
    exact ⟨_, _, rfl, g2, ⟨ha, hb, hc⟩, .inl ⟨hnum, .inr ⟨by omega, .inl rfl⟩⟩⟩
  split
  · exact ⟨_, _, rfl, hc, ⟨ha, hb, hc⟩, .inl ⟨hnum, .inr ⟨by omega, .inl rfl⟩⟩⟩
  obtain ⟨q, eq, pq, mq, _⟩ := fin_mul h (a := a) (b := b)
  obtain ⟨r, er, pr, mr, vr⟩ := fin_fma h (c := c) eq
  rw [eq]
  dsimp only
  rw [er]
  dsimp only
  obtain ⟨t, fl, e1, t1, t2, t3, _⟩ := rto_out h hmo mr (if q.n = 0 ∧ (f.val c).1.n = 0 ∧ f.sn c = (f.sn a != f.sn b) then (f.sn a != f.sn b) else decide (mode = 2))
  exact ⟨t, fl, e1, t1, ⟨ha, hb, hc⟩, .inl ⟨hnum, .inr ⟨t2, t3⟩⟩⟩
/-- Sums of finite numbers. -/
theorem add_fin (hm : 0 ≤ mode ∧ mode < 5) (ha : a < 2 ^ (f.p + f.w)) (hb : b < 2 ^ (f.p + f.w)) (h1 : f.cl a ≤ 2) (h2 : f.cl b ≤ 2) : ∃ n, f.addR mode a b = f.rto mode (add (f.val a).1 (f.val b).1).1 n := by
  unfold addR
  rw [if_neg (by rw [mayE_ok hm (by intro x hx; simp at hx; rcases hx with rfl | rfl <;> assumption)]; simp), noneR_two (by omega) (by omega), if_neg (by simp)]
  unfold sumR
  rw [if_neg (by omega), if_neg (by omega), if_neg (by omega)]
  exact ⟨_, rfl⟩
theorem mul_fin (hm : 0 ≤ mode ∧ mode < 5) (ha : a < 2 ^ (f.p + f.w)) (hb : b < 2 ^ (f.p + f.w)) (h1 : f.cl a ≤ 2) (h2 : f.cl b ≤ 2) : ∃ n, f.mulR mode a b = f.rto mode (mul (f.val a).1 (f.val b).1).1 n := by
  unfold mulR
  rw [if_neg (by rw [mayE_ok hm (by intro x hx; simp at hx; rcases hx with rfl | rfl <;> assumption)]; simp), noneR_two (by omega) (by omega), if_neg (by simp)]
  rw [if_neg (show ¬ f.vain a b = true by unfold vain; rw [decide_eq_true_eq]; omega), if_neg (by omega)]
  exact ⟨_, rfl⟩
end
end Fm
end Go.Proofs.Ytlaffgojgfdlnaa.N
