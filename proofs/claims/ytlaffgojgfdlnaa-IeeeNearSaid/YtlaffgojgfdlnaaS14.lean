/- The contracts of format's small functions (masks, bias, least place, parts, class, sign, zeros, infinities, greatest and no numbers), for all bits of the three formats. -/
import Derived.Test.YtlaffgojgfdlnaaS7
import Derived.Test.YtlaffgojgfdlnaaN41
set_option linter.unusedVariables false
set_option linter.unusedSimpArgs false
set_option linter.constructorNameAsVariable false
set_option linter.unusedSectionVars false
set_option maxRecDepth 100000
set_option maxHeartbeats 4000000
namespace Go.Proofs.Ytlaffgojgfdlnaa.A
open Go.RowKit Go.Proofs.Ytlaffgojgfdlnaa.P Go.Proofs.YtlaffgojgfdlnaaW.PrintWords Go.Proofs.YtlaffgojgfdlnaaW.PrintMore Go.Proofs.Ytlaffgojgfdlnaa.N Sk Dy
/-! ### format -/
/-- A format's cells; 64 bits. -/
abbrev fmA (f : Fm) : List AA := [iA ((f.p + f.w : Nat) : Int), iA (f.p : Int), iA (f.w : Int)]
abbrev uA (n : Nat) : AA := .i .u64 (n : Int)
theorem mask_snd {k : Nat} (hk : k ≤ 64) : Snd Try.prog 64 [.a (iA k)] (.a (uA (2 ^ k - 1))) := by
  refine snd_of ttOk mixed Try.func64 Try.ntmps64 rfl (by kernel_rfl) rfl ?_
  refine And.intro (Int.natCast_nonneg k) ?_
  refine ⟨rfl, ?_⟩
  show AV.a (.i .u64 (IntKind.wrap .u64 (IntKind.wrap .u64 (1 * 2 ^ (min ((k : Nat) : Int).toNat (IntKind.bits .u64))) - 1))) = _
  rw [maskU hk]
theorem uN_and1 {m : Nat} (hm : m < 2 ^ 64) : IntKind.wrap .u64 (((BitVec.ofInt (IntKind.bits .u64) (m : Int) &&& BitVec.ofInt (IntKind.bits .u64) 1).toNat : Nat) : Int) = ((m % 2 : Nat) : Int) := uN_andMask (k := 1) hm (by omega)
theorem beqN (m n : Nat) : ((m : Int) == (n : Int)) = decide (m = n) := by
  by_cases h : m = n
  · subst h; simp
  · rw [decide_eq_false h, beq_eq_false_iff_ne]; omega
theorem div_lt64 {b : Nat} (hb : b < 2 ^ 64) (k : Nat) : b / 2 ^ k < 2 ^ 64 := Nat.lt_of_le_of_lt (Nat.div_le_self _ _) hb
section
variable {f : Fm} (h : f.ok)
include h
theorem bias_snd : Snd Try.prog 75 [.g (fmA f)] (.a (iA f.bias)) := by
  refine snd_of ttOk mixed Try.func75 Try.ntmps75 rfl (by kernel_rfl) rfl ?_
  rcases h with rfl | rfl | rfl
  all_goals
    refine And.intro (by decide) ?_
    refine ⟨rfl, ?_⟩
    rfl
theorem low_snd : Snd Try.prog 45 [.g (fmA f)] (.a (iA f.low)) := by
  refine snd_of ttOk mixed Try.func45 Try.ntmps45 rfl (by kernel_rfl) rfl ?_
  have c := bias_snd h
  repeat (conv => whnf); first | refine br_tt ?_ | refine br_ff ?_ | refine ⟨_, c, ?_⟩ | refine And.intro (by kernel_rfl) ?_ | refine And.intro (by decide) ?_
  rcases h with rfl | rfl | rfl <;> rfl
theorem wI_p1 : IntKind.wrap .i64 ((f.p : Int) - 1) = ((f.p - 1 : Nat) : Int) := by have := Fm.bounds h; rw [wI (by omega) (by omega)]; omega
theorem wI_p2 : IntKind.wrap .i64 ((f.p : Int) - 2) = ((f.p - 2 : Nat) : Int) := by have := Fm.bounds h; rw [wI (by omega) (by omega)]; omega
theorem wI_b1 : IntKind.wrap .i64 (((f.p + f.w : Nat) : Int) - 1) = ((f.p + f.w - 1 : Nat) : Int) := by have := Fm.bounds h; rw [wI (by omega) (by omega)]; omega
theorem fmay_snd {b : Nat} (hb : b < 2 ^ 64) : Snd Try.prog 27 [.g (fmA f), .a (uA b)] (.a (.b (decide (b < 2 ^ (f.p + f.w))))) := by
  have := Fm.bounds h
  have c := mask_snd (k := f.p + f.w) (by omega)
  refine snd_of ttOk mixed Try.func27 Try.ntmps27 rfl (by kernel_rfl) rfl ?_
  repeat (conv => whnf); first | refine br_tt ?_ | refine br_ff ?_ | refine ⟨_, c, ?_⟩ | refine And.intro (by kernel_rfl) ?_ | refine And.intro (by decide) ?_
  show AV.a (.b (IntKind.wrap .u64 (((BitVec.ofInt (IntKind.bits .u64) (b : Int) &&& ~~~ (BitVec.ofInt (IntKind.bits .u64) ((2 ^ (f.p + f.w) - 1 : Nat) : Int))).toNat : Nat) : Int) == ((0 : Nat) : Int))) = _
  rw [uN_andNot hb (by omega), beqN]
  have h1 := Nat.two_pow_pos (f.p + f.w)
  have e : (b / 2 ^ (f.p + f.w) * 2 ^ (f.p + f.w) = 0) ↔ b < 2 ^ (f.p + f.w) := by
    rw [Nat.mul_eq_zero, Nat.div_eq_zero_iff]; omega
  rw [decide_eq_decide.2 e]
theorem ffr_snd {b : Nat} (hb : b < 2 ^ 64) : Snd Try.prog 44 [.g (fmA f), .a (uA b)] (.a (uA (f.fr b))) := by
  have := Fm.bounds h
  have c := mask_snd (k := f.p - 1) (by omega)
  rw [← wI_p1 h] at c
  refine snd_of ttOk mixed Try.func44 Try.ntmps44 rfl (by kernel_rfl) rfl ?_
  repeat (conv => whnf); first | refine br_tt ?_ | refine br_ff ?_ | refine ⟨_, c, ?_⟩ | refine And.intro (by kernel_rfl) ?_ | refine And.intro (by decide) ?_
  show AV.a (.i .u64 (IntKind.wrap .u64 (((BitVec.ofInt (IntKind.bits .u64) (b : Int) &&& (BitVec.ofInt (IntKind.bits .u64) ((2 ^ (f.p - 1) - 1 : Nat) : Int))).toNat : Nat) : Int))) = _
  rw [uN_andMask hb (by omega)]; rfl
theorem fex_snd {b : Nat} (hb : b < 2 ^ 64) : Snd Try.prog 46 [.g (fmA f), .a (uA b)] (.a (uA (f.ex b))) := by
  have := Fm.bounds h
  have c := mask_snd (k := f.w) (by omega)
  have z : (0 : Int) ≤ IntKind.wrap .i64 ((f.p : Int) - 1) := by rw [wI_p1 h]; omega
  refine snd_of ttOk mixed Try.func46 Try.ntmps46 rfl (by kernel_rfl) rfl ?_
  repeat (conv => whnf); first | refine br_tt ?_ | refine br_ff ?_ | refine ⟨_, c, ?_⟩ | refine And.intro z ?_ | refine And.intro (by kernel_rfl) ?_ | refine And.intro (by decide) ?_
  show AV.a (.i .u64 (IntKind.wrap .u64 (((BitVec.ofInt (IntKind.bits .u64) (Int.fdiv (b : Int) (2 ^ (min (IntKind.wrap .i64 ((f.p : Int) - 1)).toNat (IntKind.bits .u64)))) &&& (BitVec.ofInt (IntKind.bits .u64) ((2 ^ f.w - 1 : Nat) : Int))).toNat : Nat) : Int))) = _
  rw [wI_p1 h, shrU (by omega), uN_andMask (div_lt64 hb _) (by omega)]; rfl
theorem fneg_snd {b : Nat} (hb : b < 2 ^ 64) : Snd Try.prog 14 [.g (fmA f), .a (uA b)] (.a (.b (f.sn b))) := by
  have := Fm.bounds h
  have z : (0 : Int) ≤ IntKind.wrap .i64 (((f.p + f.w : Nat) : Int) - 1) := by rw [wI_b1 h]; omega
  refine snd_of ttOk mixed Try.func14 Try.ntmps14 rfl (by kernel_rfl) rfl ?_
  repeat (conv => whnf); first | refine br_tt ?_ | refine br_ff ?_ | refine And.intro z ?_ | refine And.intro (by kernel_rfl) ?_ | refine And.intro (by decide) ?_
  show AV.a (.b (IntKind.wrap .u64 (((BitVec.ofInt (IntKind.bits .u64) (Int.fdiv (b : Int) (2 ^ (min (IntKind.wrap .i64 (((f.p + f.w : Nat) : Int) - 1)).toNat (IntKind.bits .u64)))) &&& (BitVec.ofInt (IntKind.bits .u64) 1)).toNat : Nat) : Int) == ((1 : Nat) : Int))) = _
  rw [wI_b1 h, shrU (by omega), uN_and1 (div_lt64 hb _), beqN]; rfl
theorem bit_fr (b : Nat) : b / 2 ^ (f.p - 2) % 2 = 1 ↔ 2 ^ (f.p - 2) ≤ f.fr b := by
  rcases h with rfl | rfl | rfl <;> simp only [Fm.fr, Nat.reduceSub, Nat.reducePow] <;> omega
theorem fcl_snd {b : Nat} (hb : b < 2 ^ 64) : Snd Try.prog 28 [.g (fmA f), .a (uA b)] (.a (iA (f.cl b))) := by
  have hB := Fm.bounds h
  have c1 := ffr_snd h hb
  have c2 := fex_snd h hb
  have c3 := mask_snd (k := f.w) (by omega)
  have z : (0 : Int) ≤ IntKind.wrap .i64 ((f.p : Int) - 2) := by rw [wI_p2 h]; omega
  have z1 := beqN (f.ex b) 0
  have z2 := beqN (f.fr b) 0
  have hp : 0 < 2 ^ f.w := Nat.two_pow_pos _
  have z3 : decide (((f.ex b : Nat) : Int) < ((2 ^ f.w - 1 : Nat) : Int)) = decide (f.ex b < 2 ^ f.w - 1) := decide_eq_decide.2 (by omega)
  have z4 : (IntKind.wrap .u64 (((BitVec.ofInt (IntKind.bits .u64) (Int.fdiv (b : Int) (2 ^ (min (IntKind.wrap .i64 ((f.p : Int) - 2)).toNat (IntKind.bits .u64)))) &&& (BitVec.ofInt (IntKind.bits .u64) 1)).toNat : Nat) : Int) == ((1 : Nat) : Int)) = decide (2 ^ (f.p - 2) ≤ f.fr b) := by
    rw [wI_p2 h, shrU (by omega), uN_and1 (div_lt64 hb _), beqN]
    exact decide_eq_decide.2 (bit_fr h b)
  refine snd_of ttOk mixed Try.func28 Try.ntmps28 rfl (by kernel_rfl) rfl ?_
  by_cases h1 : f.ex b = 0
  · rw [decide_eq_true h1] at z1
    by_cases h2 : f.fr b = 0
    · rw [decide_eq_true h2] at z2
      rw [show f.cl b = 0 by unfold Fm.cl; rw [if_pos h1, if_pos h2]]
      repeat (conv => whnf); first | refine br_tt ?_ | refine br_ff ?_ | refine ⟨_, c1, ?_⟩ | refine ⟨_, c2, ?_⟩ | refine ⟨_, c3, ?_⟩ | refine And.intro z ?_ | refine br_t z1 ?_ | refine br_t z2 ?_ | refine And.intro (by kernel_rfl) ?_ | refine And.intro (by decide) ?_
      rfl
    · rw [decide_eq_false h2] at z2
      rw [show f.cl b = 1 by unfold Fm.cl; rw [if_pos h1, if_neg h2]]
      repeat (conv => whnf); first | refine br_tt ?_ | refine br_ff ?_ | refine ⟨_, c1, ?_⟩ | refine ⟨_, c2, ?_⟩ | refine ⟨_, c3, ?_⟩ | refine And.intro z ?_ | refine br_t z1 ?_ | refine br_f z2 ?_ | refine And.intro (by kernel_rfl) ?_ | refine And.intro (by decide) ?_
      rfl
  rw [decide_eq_false h1] at z1
  by_cases h3 : f.ex b < 2 ^ f.w - 1
  · rw [decide_eq_true h3] at z3
    rw [show f.cl b = 2 by unfold Fm.cl; rw [if_neg h1, if_pos h3]]
    repeat (conv => whnf); first | refine br_tt ?_ | refine br_ff ?_ | refine ⟨_, c1, ?_⟩ | refine ⟨_, c2, ?_⟩ | refine ⟨_, c3, ?_⟩ | refine And.intro z ?_ | refine br_f z1 ?_ | refine br_t z3 ?_ | refine And.intro (by kernel_rfl) ?_ | refine And.intro (by decide) ?_
    rfl
  rw [decide_eq_false h3] at z3
  by_cases h2 : f.fr b = 0
  · rw [decide_eq_true h2] at z2
    rw [show f.cl b = 3 by unfold Fm.cl; rw [if_neg h1, if_neg h3, if_pos h2]]
    repeat (conv => whnf); first | refine br_tt ?_ | refine br_ff ?_ | refine ⟨_, c1, ?_⟩ | refine ⟨_, c2, ?_⟩ | refine ⟨_, c3, ?_⟩ | refine And.intro z ?_ | refine br_f z1 ?_ | refine br_f z3 ?_ | refine br_t z2 ?_ | refine And.intro (by kernel_rfl) ?_ | refine And.intro (by decide) ?_
    rfl
  rw [decide_eq_false h2] at z2
  by_cases h4 : 2 ^ (f.p - 2) ≤ f.fr b
  · rw [decide_eq_true h4] at z4
    rw [show f.cl b = 4 by unfold Fm.cl; rw [if_neg h1, if_neg h3, if_neg h2, if_pos h4]]
    repeat (conv => whnf); first | refine br_tt ?_ | refine br_ff ?_ | refine ⟨_, c1, ?_⟩ | refine ⟨_, c2, ?_⟩ | refine ⟨_, c3, ?_⟩ | refine And.intro z ?_ | refine br_f z1 ?_ | refine br_f z3 ?_ | refine br_f z2 ?_ | refine br_t z4 ?_ | refine And.intro (by kernel_rfl) ?_ | refine And.intro (by decide) ?_
    rfl
  · rw [decide_eq_false h4] at z4
    rw [show f.cl b = 5 by unfold Fm.cl; rw [if_neg h1, if_neg h3, if_neg h2, if_neg h4]]
    repeat (conv => whnf); first | refine br_tt ?_ | refine br_ff ?_ | refine ⟨_, c1, ?_⟩ | refine ⟨_, c2, ?_⟩ | refine ⟨_, c3, ?_⟩ | refine And.intro z ?_ | refine br_f z1 ?_ | refine br_f z3 ?_ | refine br_f z2 ?_ | refine br_f z4 ?_ | refine And.intro (by kernel_rfl) ?_ | refine And.intro (by decide) ?_
    rfl
theorem bld_zz (neg : Bool) : f.bld neg 0 0 = if neg = true then 2 ^ (f.p + f.w - 1) else 0 := by unfold Fm.bld; simp only [Nat.zero_mul, Nat.zero_add]
theorem fnought_snd (neg : Bool) : Snd Try.prog 31 [.g (fmA f), .a (.b neg)] (.a (uA (f.bld neg 0 0))) := by
  have hB := Fm.bounds h
  have z : (0 : Int) ≤ IntKind.wrap .i64 (((f.p + f.w : Nat) : Int) - 1) := by rw [wI_b1 h]; omega
  rw [bld_zz h]
  refine snd_of ttOk mixed Try.func31 Try.ntmps31 rfl (by kernel_rfl) rfl ?_
  cases neg
  · repeat (conv => whnf); first | refine br_tt ?_ | refine br_ff ?_ | refine And.intro z ?_ | refine And.intro (by kernel_rfl) ?_ | refine And.intro (by decide) ?_
    rfl
  · repeat (conv => whnf); first | refine br_tt ?_ | refine br_ff ?_ | refine And.intro z ?_ | refine And.intro (by kernel_rfl) ?_ | refine And.intro (by decide) ?_
    show AV.a (.i .u64 (IntKind.wrap .u64 (((1 : Nat) : Int) * 2 ^ (min (IntKind.wrap .i64 (((f.p + f.w : Nat) : Int) - 1)).toNat (IntKind.bits .u64))))) = _
    rw [wI_b1 h, shlU (by rw [Nat.one_mul]; exact Nat.pow_lt_pow_right (by omega) (by omega)) (by omega), Nat.one_mul]; rfl
theorem inf_or (neg : Bool) : f.bld neg 0 0 ||| (2 ^ f.w - 1) * 2 ^ (f.p - 1) = f.inf neg := by
  cases neg
  · rw [bld_zz h, if_neg (by simp), Nat.zero_or]; unfold Fm.inf Fm.bld; simp
  · rw [bld_zz h, if_pos rfl]
    rcases h with rfl | rfl | rfl <;> decide
theorem inf_lt (neg : Bool) : f.inf neg < 2 ^ 64 := by rcases h with rfl | rfl | rfl <;> cases neg <;> decide
theorem nought_lt (neg : Bool) : f.bld neg 0 0 < 2 ^ 64 := by rcases h with rfl | rfl | rfl <;> cases neg <;> decide
theorem finf_snd (neg : Bool) : Snd Try.prog 56 [.g (fmA f), .a (.b neg)] (.a (uA (f.inf neg))) := by
  have hB := Fm.bounds h
  have z : (0 : Int) ≤ IntKind.wrap .i64 ((f.p : Int) - 1) := by rw [wI_p1 h]; omega
  have c1 := fnought_snd h neg
  have c2 := mask_snd (k := f.w) (by omega)
  refine snd_of ttOk mixed Try.func56 Try.ntmps56 rfl (by kernel_rfl) rfl ?_
  repeat (conv => whnf); first | refine br_tt ?_ | refine br_ff ?_ | refine ⟨_, c1, ?_⟩ | refine ⟨_, c2, ?_⟩ | refine And.intro z ?_ | refine And.intro (by kernel_rfl) ?_ | refine And.intro (by decide) ?_
  show AV.a (.i .u64 (IntKind.wrap .u64 (((BitVec.ofInt (IntKind.bits .u64) ((f.bld neg 0 0 : Nat) : Int) ||| (BitVec.ofInt (IntKind.bits .u64) (IntKind.wrap .u64 (((2 ^ f.w - 1 : Nat) : Int) * 2 ^ (min (IntKind.wrap .i64 ((f.p : Int) - 1)).toNat (IntKind.bits .u64)))))).toNat : Nat) : Int))) = _
  have l1 : (2 ^ f.w - 1) * 2 ^ (f.p - 1) < 2 ^ 64 := by rcases h with rfl | rfl | rfl <;> decide
  rw [wI_p1 h, shlU l1 (by omega), uN_or (nought_lt h neg) l1, inf_or h]
theorem fgrt_snd (neg : Bool) : Snd Try.prog 78 [.g (fmA f), .a (.b neg)] (.a (uA (f.grt neg))) := by
  have c1 := finf_snd h neg
  refine snd_of ttOk mixed Try.func78 Try.ntmps78 rfl (by kernel_rfl) rfl ?_
  repeat (conv => whnf); first | refine br_tt ?_ | refine br_ff ?_ | refine ⟨_, c1, ?_⟩ | refine And.intro (by kernel_rfl) ?_ | refine And.intro (by decide) ?_
  rcases h with rfl | rfl | rfl <;> cases neg <;> rfl
theorem qui_or (b : Nat) : b % 2 ^ (f.p + f.w) ||| 2 ^ (f.p - 2) = f.qui b := by
  have e := Fm.bld_self h (b := b)
  have h0 : b % 2 ^ (f.p + f.w) / 2 ^ (f.p - 2) % 2 = 1 ↔ 2 ^ (f.p - 2) ≤ f.fr b := by
    rcases h with rfl | rfl | rfl <;> simp only [Fm.fr, Nat.reduceSub, Nat.reduceAdd, Nat.reducePow] <;> omega
  rw [or_bit]
  unfold Fm.qui
  by_cases h1 : f.fr b < 2 ^ (f.p - 2)
  · rw [if_pos h1, if_neg (fun k => by have := h0.1 k; omega), ← e]
    unfold Fm.bld; omega
  · rw [if_neg h1, if_pos (h0.2 (by omega)), e]
theorem fqui_snd {b : Nat} (hb : b < 2 ^ 64) : Snd Try.prog 68 [.g (fmA f), .a (uA b)] (.a (uA (f.qui b))) := by
  have hB := Fm.bounds h
  have z : (0 : Int) ≤ IntKind.wrap .i64 ((f.p : Int) - 2) := by rw [wI_p2 h]; omega
  have c2 := mask_snd (k := f.p + f.w) (by omega)
  refine snd_of ttOk mixed Try.func68 Try.ntmps68 rfl (by kernel_rfl) rfl ?_
  repeat (conv => whnf); first | refine br_tt ?_ | refine br_ff ?_ | refine ⟨_, c2, ?_⟩ | refine And.intro z ?_ | refine And.intro (by kernel_rfl) ?_ | refine And.intro (by decide) ?_
  show AV.a (.i .u64 (IntKind.wrap .u64 (((BitVec.ofInt (IntKind.bits .u64) (IntKind.wrap .u64 (((BitVec.ofInt (IntKind.bits .u64) (b : Int) &&& (BitVec.ofInt (IntKind.bits .u64) ((2 ^ (f.p + f.w) - 1 : Nat) : Int))).toNat : Nat) : Int)) ||| (BitVec.ofInt (IntKind.bits .u64) (IntKind.wrap .u64 (((1 : Nat) : Int) * 2 ^ (min (IntKind.wrap .i64 ((f.p : Int) - 2)).toNat (IntKind.bits .u64)))))).toNat : Nat) : Int))) = _
  have l1 : 1 * 2 ^ (f.p - 2) < 2 ^ 64 := by rw [Nat.one_mul]; exact Nat.pow_lt_pow_right (by omega) (by omega)
  rw [wI_p2 h, shlU l1 (by omega), uN_andMask hb (by omega), uN_or (Nat.lt_of_le_of_lt (Nat.mod_le _ _) hb) l1, Nat.one_mul, qui_or h]
theorem fnone_snd : Snd Try.prog 33 [.g (fmA f)] (.a (uA f.non)) := by
  have c1 := finf_snd h false
  have c2 := fqui_snd h (inf_lt h false)
  have e : f.qui (f.inf false) = f.non := by rcases h with rfl | rfl | rfl <;> decide
  rw [e] at c2
  refine snd_of ttOk mixed Try.func33 Try.ntmps33 rfl (by kernel_rfl) rfl ?_
  repeat (conv => whnf); first | refine br_tt ?_ | refine br_ff ?_ | refine ⟨_, c1, ?_⟩ | refine ⟨_, c2, ?_⟩ | refine And.intro (by kernel_rfl) ?_ | refine And.intro (by decide) ?_
  rfl
end
end Go.Proofs.Ytlaffgojgfdlnaa.A
