/- The contracts of format.Of and of reference 3's small functions, for all inputs of the three formats. -/
import Derived.Test.YtlaffgojgfdlnaaGreatS15
set_option linter.unusedVariables false
set_option linter.unusedSimpArgs false
set_option linter.constructorNameAsVariable false
set_option linter.unusedSectionVars false
set_option maxRecDepth 100000
set_option maxHeartbeats 4000000
namespace Go.Proofs.YtlaffgojgfdlnaaGreat.A
open Go.RowKit Go.Proofs.YtlaffgojgfdlnaaGreat.P Go.Proofs.YtlaffgojgfdlnaaGreatW.PrintWords Go.Proofs.YtlaffgojgfdlnaaGreatW.PrintMore Go.Proofs.YtlaffgojgfdlnaaGreat.N Sk Dy
/-! ### format.Of, and reference 3 -/
/-- The format of so many bits. -/
def fmOf (bits : Int) : Option Fm := if bits = 16 then some ⟨11, 5⟩ else if bits = 32 then some ⟨24, 8⟩ else if bits = 64 then some ⟨53, 11⟩ else none
theorem fmOf_ok {bits : Int} {f : Fm} (h : fmOf bits = some f) : f.ok ∧ bits = ((f.p + f.w : Nat) : Int) := by
  unfold fmOf at h
  split at h
  · cases h; exact ⟨.inl rfl, by assumption⟩
  split at h
  · cases h; exact ⟨.inr (.inl rfl), by assumption⟩
  split at h
  · cases h; exact ⟨.inr (.inr rfl), by assumption⟩
  · cases h
abbrev ofA (r : Option Fm) : AV := match r with
  | some f => .t [.g (fmA f), .a (iA 0)]
  | none => .t [.g [iA 0, iA 0, iA 0], .a (iA 1)]
theorem fall_snd : Snd Tryz.prog 17 [] (.g [iA 16, iA 11, iA 5, iA 32, iA 24, iA 8, iA 64, iA 53, iA 11]) := by
  refine snd_of ttOk mixed Tryz.func17 Tryz.ntmps17 rfl (by kernel_rfl) rfl ?_
  repeat (conv => whnf); first | refine br_tt ?_ | refine br_ff ?_ | refine And.intro (by kernel_rfl) ?_ | refine And.intro (by decide) ?_
  rfl
theorem fof_snd (bits : Int) : Snd Tryz.prog 5 [.a (iA bits)] (ofA (fmOf bits)) := by
  refine snd_of ttOk mixed Tryz.func5 Tryz.ntmps5 rfl (by kernel_rfl) rfl ?_
  unfold fmOf
  by_cases h1 : bits = 16
  · subst h1
    repeat (conv => whnf); first | refine ⟨5, ?_⟩ | refine br_tt ?_ | refine br_ff ?_ | refine ⟨_, fall_snd, ?_⟩ | refine And.intro (by kernel_rfl) ?_ | refine And.intro (by decide) ?_
    rfl
  have z1 : ((16 : Int) == bits) = false := by rw [beq_eq_false_iff_ne]; omega
  rw [if_neg h1]
  by_cases h2 : bits = 32
  · subst h2
    repeat (conv => whnf); first | refine ⟨5, ?_⟩ | refine br_tt ?_ | refine br_ff ?_ | refine ⟨_, fall_snd, ?_⟩ | refine And.intro (by kernel_rfl) ?_ | refine And.intro (by decide) ?_
    rfl
  have z2 : ((32 : Int) == bits) = false := by rw [beq_eq_false_iff_ne]; omega
  rw [if_neg h2]
  by_cases h3 : bits = 64
  · subst h3
    repeat (conv => whnf); first | refine ⟨5, ?_⟩ | refine br_tt ?_ | refine br_ff ?_ | refine ⟨_, fall_snd, ?_⟩ | refine And.intro (by kernel_rfl) ?_ | refine And.intro (by decide) ?_
    rfl
  have z3 : ((64 : Int) == bits) = false := by rw [beq_eq_false_iff_ne]; omega
  rw [if_neg h3]
  repeat (conv => whnf); first | refine ⟨5, ?_⟩ | refine br_tt ?_ | refine br_ff ?_ | refine ⟨_, fall_snd, ?_⟩ | refine br_f z1 ?_ | refine br_f z2 ?_ | refine br_f z3 ?_ | refine And.intro (by kernel_rfl) ?_ | refine And.intro (by decide) ?_
  rfl
theorem rof3_snd (bits : Int) : Snd Tryz.prog 6 [.a (iA bits)] (ofA (fmOf bits)) := by
  refine snd_of ttOk mixed Tryz.func6 Tryz.ntmps6 rfl (by kernel_rfl) rfl ?_
  unfold fmOf
  by_cases h1 : bits = 16
  · subst h1
    repeat (conv => whnf); first | refine br_tt ?_ | refine br_ff ?_ | refine And.intro (by kernel_rfl) ?_ | refine And.intro (by decide) ?_
    rfl
  have z1 : (bits == (16 : Int)) = false := by rw [beq_eq_false_iff_ne]; omega
  rw [if_neg h1]
  by_cases h2 : bits = 32
  · subst h2
    repeat (conv => whnf); first | refine br_tt ?_ | refine br_ff ?_ | refine And.intro (by kernel_rfl) ?_ | refine And.intro (by decide) ?_
    rfl
  have z2 : (bits == (32 : Int)) = false := by rw [beq_eq_false_iff_ne]; omega
  rw [if_neg h2]
  by_cases h3 : bits = 64
  · subst h3
    repeat (conv => whnf); first | refine br_tt ?_ | refine br_ff ?_ | refine And.intro (by kernel_rfl) ?_ | refine And.intro (by decide) ?_
    rfl
  have z3 : (bits == (64 : Int)) = false := by rw [beq_eq_false_iff_ne]; omega
  rw [if_neg h3]
  repeat (conv => whnf); first | refine br_tt ?_ | refine br_ff ?_ | refine br_f z1 ?_ | refine br_f z2 ?_ | refine br_f z3 ?_ | refine And.intro (by kernel_rfl) ?_ | refine And.intro (by decide) ?_
  rfl
theorem power_snd {k : Nat} (hk : k ∈ [4, 5, 7, 8, 9, 10, 11, 15, 22, 23, 31, 51, 52, 63]) : Snd Tryz.prog 50 [.a (iA k)] (.a (uA (2 ^ k))) := by
  refine snd_of ttOk mixed Tryz.func50 Tryz.ntmps50 rfl (by kernel_rfl) rfl ?_
  simp only [List.mem_cons, List.not_mem_nil, or_false] at hk
  rcases hk with rfl | rfl | rfl | rfl | rfl | rfl | rfl | rfl | rfl | rfl | rfl | rfl | rfl | rfl
  all_goals
    repeat (conv => whnf); first | refine ⟨70, ?_⟩ | refine br_tt ?_ | refine br_ff ?_ | refine And.intro (by kernel_rfl) ?_ | refine And.intro (by decide) ?_
    rfl
theorem tmodU (m n : Nat) : Int.tmod (m : Int) (n : Int) = ((m % n : Nat) : Int) := rfl
theorem quoU {m n : Nat} (hm : m < 2 ^ 64) : IntKind.wrap .u64 (Int.tdiv (m : Int) (n : Int)) = ((m / n : Nat) : Int) := by
  rw [show Int.tdiv (m : Int) (n : Int) = ((m / n : Nat) : Int) from rfl]
  have := Nat.div_le_self m n
  generalize m / n = q at *
  exact wU (by omega) (by omega)
section
variable {f : Fm} (h : f.ok)
include h
theorem pw_p1 : Snd Tryz.prog 50 [.a (iA (IntKind.wrap .i64 ((f.p : Int) - 1)))] (.a (uA (2 ^ (f.p - 1)))) := by
  rw [wI_p1 h]; exact power_snd (by rcases h with rfl | rfl | rfl <;> decide)
theorem pw_p2 : Snd Tryz.prog 50 [.a (iA (IntKind.wrap .i64 ((f.p : Int) - 2)))] (.a (uA (2 ^ (f.p - 2)))) := by
  rw [wI_p2 h]; exact power_snd (by rcases h with rfl | rfl | rfl <;> decide)
theorem pw_w : Snd Tryz.prog 50 [.a (iA (f.w : Int))] (.a (uA (2 ^ f.w))) := power_snd (by rcases h with rfl | rfl | rfl <;> decide)
theorem pw_w1 : Snd Tryz.prog 50 [.a (iA (IntKind.wrap .i64 ((f.w : Int) - 1)))] (.a (uA (2 ^ (f.w - 1)))) := by
  rw [wI_w1 h]; exact power_snd (by rcases h with rfl | rfl | rfl <;> decide)
theorem pw_b1 : Snd Tryz.prog 50 [.a (iA (IntKind.wrap .i64 (((f.p + f.w : Nat) : Int) - 1)))] (.a (uA (2 ^ (f.p + f.w - 1)))) := by
  rw [wI_b1 h]; exact power_snd (by rcases h with rfl | rfl | rfl <;> decide)
theorem rbias_snd : Snd Tryz.prog 49 [.g (fmA f)] (.a (iA f.bias)) := by
  have c := pw_w1 h
  refine snd_of ttOk mixed Tryz.func49 Tryz.ntmps49 rfl (by kernel_rfl) rfl ?_
  repeat (conv => whnf); first | refine br_tt ?_ | refine br_ff ?_ | refine ⟨_, c, ?_⟩ | refine And.intro (by kernel_rfl) ?_ | refine And.intro (by decide) ?_
  rcases h with rfl | rfl | rfl <;> rfl
theorem rlow_snd : Snd Tryz.prog 77 [.g (fmA f)] (.a (iA f.low)) := by
  have c := rbias_snd h
  refine snd_of ttOk mixed Tryz.func77 Tryz.ntmps77 rfl (by kernel_rfl) rfl ?_
  repeat (conv => whnf); first | refine br_tt ?_ | refine br_ff ?_ | refine ⟨_, c, ?_⟩ | refine And.intro (by kernel_rfl) ?_ | refine And.intro (by decide) ?_
  rcases h with rfl | rfl | rfl <;> rfl
/-- The sign's number. -/
def sb (f : Fm) (b : Nat) : Nat := b / 2 ^ (f.p - 1) / 2 ^ f.w % 2
omit h in
theorem two_ne (k : Nat) : ((2 ^ k : Nat) : Int) ≠ 0 := by have := Nat.two_pow_pos k; omega
theorem rparts_snd3 {b : Nat} (hb : b < 2 ^ 64) : Snd Tryz.prog 45 [.g (fmA f), .a (uA b)] (.t [.a (uA (sb f b)), .a (uA (f.ex b)), .a (uA (f.fr b)), .a (.b (decide (2 ^ (f.p + f.w) ≤ b)))]) := by
  have hB := Fm.bounds h
  have c1 := pw_p1 h
  have c2 := pw_w h
  have n1 := two_ne (f.p - 1)
  have n2 := two_ne f.w
  refine snd_of ttOk mixed Tryz.func45 Tryz.ntmps45 rfl (by kernel_rfl) rfl ?_
  repeat (conv => whnf); first | refine br_tt ?_ | refine br_ff ?_ | refine ⟨_, c1, ?_⟩ | refine ⟨_, c2, ?_⟩ | refine And.intro n1 ?_ | refine And.intro n2 ?_ | refine And.intro (by kernel_rfl) ?_ | refine And.intro (by decide) ?_
  show AV.t [.a (.i .u64 (Int.tmod (IntKind.wrap .u64 (Int.tdiv (IntKind.wrap .u64 (Int.tdiv (b : Int) ((2 ^ (f.p - 1) : Nat) : Int))) ((2 ^ f.w : Nat) : Int))) ((2 : Nat) : Int))), .a (.i .u64 (Int.tmod (IntKind.wrap .u64 (Int.tdiv (b : Int) ((2 ^ (f.p - 1) : Nat) : Int))) ((2 ^ f.w : Nat) : Int))), .a (.i .u64 (Int.tmod (b : Int) ((2 ^ (f.p - 1) : Nat) : Int))), .a (.b (decide (IntKind.wrap .u64 (Int.tdiv (IntKind.wrap .u64 (Int.tdiv (b : Int) ((2 ^ (f.p - 1) : Nat) : Int))) ((2 ^ f.w : Nat) : Int)) > ((1 : Nat) : Int))))] = _
  rw [quoU hb, quoU (Nat.lt_of_le_of_lt (Nat.div_le_self _ _) hb), tmodU, tmodU, tmodU]
  have e : decide (((b / 2 ^ (f.p - 1) / 2 ^ f.w : Nat) : Int) > ((1 : Nat) : Int)) = decide (2 ^ (f.p + f.w) ≤ b) := by
    refine decide_eq_decide.2 ?_
    rcases h with rfl | rfl | rfl <;> simp only [Nat.reduceSub, Nat.reduceAdd, Nat.reducePow] <;> omega
  rw [e]
  rfl
theorem sb_sn (b : Nat) : ((sb f b : Nat) : Int) = 1 ↔ f.sn b = true := by
  unfold sb Fm.sn
  rw [decide_eq_true_eq]
  rcases h with rfl | rfl | rfl <;> simp only [Nat.reduceSub, Nat.reduceAdd, Nat.reducePow] <;> omega
theorem sb_eq (b : Nat) : (((sb f b : Nat) : Int) == 1) = f.sn b := by
  have := sb_sn h b
  cases hs : f.sn b
  · rw [beq_eq_false_iff_ne]; intro e; rw [this.1 e] at hs; cases hs
  · rw [beq_iff_eq]; exact this.2 hs
theorem rcl_snd {b : Nat} (hb : b < 2 ^ 64) : Snd Tryz.prog 23 [.g (fmA f), .a (uA b)] (.a (iA (f.cl b))) := by
  have hB := Fm.bounds h
  have c1 := rparts_snd3 h hb
  have c2 := pw_w h
  have c3 := pw_p2 h
  have z1 := beqN (f.ex b) 0
  have z2 := beqN (f.fr b) 0
  have hp : 0 < 2 ^ f.w := Nat.two_pow_pos _
  have hfull : IntKind.wrap .u64 (((2 ^ f.w : Nat) : Int) - 1) = ((2 ^ f.w - 1 : Nat) : Int) := by rw [wU (by omega) (by omega)]; omega
  have z3 : decide (((f.ex b : Nat) : Int) < IntKind.wrap .u64 (((2 ^ f.w : Nat) : Int) - 1)) = decide (f.ex b < 2 ^ f.w - 1) := by rw [hfull]; exact decide_eq_decide.2 (by omega)
  have z4 : decide (((f.fr b : Nat) : Int) ≥ ((2 ^ (f.p - 2) : Nat) : Int)) = decide (2 ^ (f.p - 2) ≤ f.fr b) := decide_eq_decide.2 (by omega)
  refine snd_of ttOk mixed Tryz.func23 Tryz.ntmps23 rfl (by kernel_rfl) rfl ?_
  by_cases h1 : f.ex b = 0
  · rw [decide_eq_true h1] at z1
    by_cases h2 : f.fr b = 0
    · rw [decide_eq_true h2] at z2
      rw [show f.cl b = 0 by unfold Fm.cl; rw [if_pos h1, if_pos h2]]
      repeat (conv => whnf); first | refine br_tt ?_ | refine br_ff ?_ | refine ⟨_, c1, ?_⟩ | refine ⟨_, c2, ?_⟩ | refine ⟨_, c3, ?_⟩ | refine br_t z1 ?_ | refine br_t z2 ?_ | refine And.intro (by kernel_rfl) ?_ | refine And.intro (by decide) ?_
      rfl
    · rw [decide_eq_false h2] at z2
      rw [show f.cl b = 1 by unfold Fm.cl; rw [if_pos h1, if_neg h2]]
      repeat (conv => whnf); first | refine br_tt ?_ | refine br_ff ?_ | refine ⟨_, c1, ?_⟩ | refine ⟨_, c2, ?_⟩ | refine ⟨_, c3, ?_⟩ | refine br_t z1 ?_ | refine br_f z2 ?_ | refine And.intro (by kernel_rfl) ?_ | refine And.intro (by decide) ?_
      rfl
  rw [decide_eq_false h1] at z1
  by_cases h3 : f.ex b < 2 ^ f.w - 1
  · rw [decide_eq_true h3] at z3
    rw [show f.cl b = 2 by unfold Fm.cl; rw [if_neg h1, if_pos h3]]
    repeat (conv => whnf); first | refine br_tt ?_ | refine br_ff ?_ | refine ⟨_, c1, ?_⟩ | refine ⟨_, c2, ?_⟩ | refine ⟨_, c3, ?_⟩ | refine br_f z1 ?_ | refine br_t z3 ?_ | refine And.intro (by kernel_rfl) ?_ | refine And.intro (by decide) ?_
    rfl
  rw [decide_eq_false h3] at z3
  by_cases h2 : f.fr b = 0
  · rw [decide_eq_true h2] at z2
    rw [show f.cl b = 3 by unfold Fm.cl; rw [if_neg h1, if_neg h3, if_pos h2]]
    repeat (conv => whnf); first | refine br_tt ?_ | refine br_ff ?_ | refine ⟨_, c1, ?_⟩ | refine ⟨_, c2, ?_⟩ | refine ⟨_, c3, ?_⟩ | refine br_f z1 ?_ | refine br_f z3 ?_ | refine br_t z2 ?_ | refine And.intro (by kernel_rfl) ?_ | refine And.intro (by decide) ?_
    rfl
  rw [decide_eq_false h2] at z2
  by_cases h4 : 2 ^ (f.p - 2) ≤ f.fr b
  · rw [decide_eq_true h4] at z4
    rw [show f.cl b = 4 by unfold Fm.cl; rw [if_neg h1, if_neg h3, if_neg h2, if_pos h4]]
    repeat (conv => whnf); first | refine br_tt ?_ | refine br_ff ?_ | refine ⟨_, c1, ?_⟩ | refine ⟨_, c2, ?_⟩ | refine ⟨_, c3, ?_⟩ | refine br_f z1 ?_ | refine br_f z3 ?_ | refine br_f z2 ?_ | refine br_t z4 ?_ | refine And.intro (by kernel_rfl) ?_ | refine And.intro (by decide) ?_
    rfl
  · rw [decide_eq_false h4] at z4
    rw [show f.cl b = 5 by unfold Fm.cl; rw [if_neg h1, if_neg h3, if_neg h2, if_neg h4]]
    repeat (conv => whnf); first | refine br_tt ?_ | refine br_ff ?_ | refine ⟨_, c1, ?_⟩ | refine ⟨_, c2, ?_⟩ | refine ⟨_, c3, ?_⟩ | refine br_f z1 ?_ | refine br_f z3 ?_ | refine br_f z2 ?_ | refine br_f z4 ?_ | refine And.intro (by kernel_rfl) ?_ | refine And.intro (by decide) ?_
    rfl
theorem rbld_snd {neg : Bool} {e x : Nat} (he : e < 2 ^ f.w) (hx : x < 2 ^ (f.p - 1)) : Snd Tryz.prog 32 [.g (fmA f), .a (.b neg), .a (uA e), .a (uA x)] (.a (uA (f.bld neg e x))) := by
  have hB := Fm.bounds h
  have c1 := pw_p1 h
  have c2 := pw_b1 h
  have l := bld_lt64 h (neg := neg) he hx
  have e1 : f.bld false e x = e * 2 ^ (f.p - 1) + x := by unfold Fm.bld; simp
  have l1 : f.bld false e x ≤ f.bld neg e x := by unfold Fm.bld; simp
  rw [e1] at l1
  have e2 : f.bld true e x = e * 2 ^ (f.p - 1) + x + 2 ^ (f.p + f.w - 1) := by unfold Fm.bld; rw [if_pos rfl]
  generalize hM : e * 2 ^ (f.p - 1) = M at e1 e2 l1
  have w1 : IntKind.wrap .u64 (((e : Nat) : Int) * ((2 ^ (f.p - 1) : Nat) : Int)) = ((M : Nat) : Int) := by rw [← Int.natCast_mul, hM]; exact wU (by omega) (by omega)
  have w2 : IntKind.wrap .u64 (IntKind.wrap .u64 (((e : Nat) : Int) * ((2 ^ (f.p - 1) : Nat) : Int)) + ((x : Nat) : Int)) = ((M + x : Nat) : Int) := by rw [w1, wU (by omega) (by omega)]; omega
  refine snd_of ttOk mixed Tryz.func32 Tryz.ntmps32 rfl (by kernel_rfl) rfl ?_
  cases neg
  · repeat (conv => whnf); first | refine br_tt ?_ | refine br_ff ?_ | refine ⟨_, c1, ?_⟩ | refine ⟨_, c2, ?_⟩ | refine And.intro (by kernel_rfl) ?_ | refine And.intro (by decide) ?_
    show AV.a (.i .u64 (IntKind.wrap .u64 (IntKind.wrap .u64 (((e : Nat) : Int) * ((2 ^ (f.p - 1) : Nat) : Int)) + ((x : Nat) : Int)))) = _
    rw [w2, e1]
  · repeat (conv => whnf); first | refine br_tt ?_ | refine br_ff ?_ | refine ⟨_, c1, ?_⟩ | refine ⟨_, c2, ?_⟩ | refine And.intro (by kernel_rfl) ?_ | refine And.intro (by decide) ?_
    show AV.a (.i .u64 (IntKind.wrap .u64 (IntKind.wrap .u64 (IntKind.wrap .u64 (((e : Nat) : Int) * ((2 ^ (f.p - 1) : Nat) : Int)) + ((x : Nat) : Int)) + ((2 ^ (f.p + f.w - 1) : Nat) : Int)))) = _
    rw [w2, e2, wU (by omega) (by omega)]; rfl
end
end Go.Proofs.YtlaffgojgfdlnaaGreat.A
