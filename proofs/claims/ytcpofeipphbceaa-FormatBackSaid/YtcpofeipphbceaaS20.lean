/- The law FormatBack answers true, at every input of its types. -/
import Derived.Test.YtcpofeipphbceaaS19
import Derived.Test.YtcpofeipphbceaaN42
set_option linter.unusedVariables false
set_option linter.unusedSimpArgs false
set_option linter.constructorNameAsVariable false
set_option linter.unusedSectionVars false
set_option maxRecDepth 100000
set_option maxHeartbeats 4000000
namespace Go.Proofs.Ytcpofeipphbceaa.A
open Go.RowKit Go.Proofs.Ytcpofeipphbceaa.P Go.Proofs.YtcpofeipphbceaaW.PrintWords Go.Proofs.YtcpofeipphbceaaW.PrintMore Go.Proofs.Ytcpofeipphbceaa.N Sk Dy
theorem fput_snd' {f : Fm} (h : f.ok) {d : Dy} (hn : Few d.n) : Snd Try.prog 34 [.g (fmA f), .g (dA d)] (.t [.a (uA (f.put d).1), .a (iA (f.put d).2)]) := by
  have := fput_snd h (neg := d.neg) (e := d.e) (few_ok hn).1 (few_ok hn).2
  rwa [nv_parts] at this
theorem rA_zero' (m : Int) : rA (Dy.zero, m) = .t [.g (dL false [] 0), .a (iA m)] := rA_zero m
theorem plen_ne {n : Nat} (h : n ≠ 0) : ¬ ((parts n).length : Int) = 0 := fun e => by
  have := beq_plen (n := n); rw [e, decide_eq_false h] at this; exact absurd this (by decide)
section
variable {f : Fm} (h : f.ok) {x : Int} {b : Nat} (e : x = (b : Int)) (hb : b < 2 ^ 64)
include h e hb
theorem fvalI : Snd Try.prog 12 [.g (fmA f), .a (.i .u64 x)] (rA (f.val b)) := by subst e; exact fval_snd h hb
theorem fclI : Snd Try.prog 19 [.g (fmA f), .a (.i .u64 x)] (.a (iA (f.cl b))) := by subst e; exact fcl_snd h hb
theorem fnegI : Snd Try.prog 21 [.g (fmA f), .a (.i .u64 x)] (.a (.b (f.sn b))) := by subst e; exact fneg_snd h hb
theorem fmayI : Snd Try.prog 18 [.g (fmA f), .a (.i .u64 x)] (.a (.b (decide (b < 2 ^ (f.p + f.w))))) := by subst e; exact fmay_snd h hb
end
theorem formatBack_law (bits x : Int) (hbits : (Lit.int .i64 bits).wf = true) (hx : (Lit.int .u64 x).wf = true) :
    Snd Try.prog 5 [.a (iA bits), .a (.i .u64 x)] (.a (.b true)) := by
  obtain ⟨b0, rfl, hb0⟩ := u64_nat hx
  have o1 := fof_snd bits
  refine snd_of ttOk mixed Try.func5 Try.ntmps5 rfl (by kernel_rfl) rfl ?_
  cases hf : fmOf bits with
  | none =>
    rw [hf] at o1
    have hnb : bits ≠ 16 ∧ bits ≠ 32 ∧ bits ≠ 64 := by
      unfold fmOf at hf
      refine ⟨?_, ?_, ?_⟩ <;> intro e <;> subst e <;> simp at hf
    have y1 : (bits != 16) = true := by simpa using hnb.1
    have y2 : (bits != 32) = true := by simpa using hnb.2.1
    have y3 : (bits != 64) = true := by simpa using hnb.2.2
    repeat (conv => whnf); first | refine br_tt ?_ | refine br_ff ?_ | refine ⟨_, awake3_snd, ?_⟩ | refine ⟨_, o1, ?_⟩ | refine br_t y1 ?_ | refine br_t y2 ?_ | refine br_t y3 ?_ | refine And.intro (by kernel_rfl) ?_ | refine And.intro (by decide) ?_
    show AV.a (.b (bits != 64)) = _
    rw [y3]
  | some f =>
    rw [hf] at o1
    obtain ⟨h, hbt⟩ := fmOf_ok hf
    have hB := Fm.bounds h
    -- the bits that are looked at
    have red : ∃ b : Nat, b < 2 ^ (f.p + f.w) ∧ b < 2 ^ 64 ∧ ((decide (((f.p + f.w : Nat) : Int) < 64) = true ∧ Int.tmod (b0 : Int) (IntKind.wrap .u64 (1 * 2 ^ (min ((f.p + f.w : Nat) : Int).toNat (IntKind.bits .u64)))) = (b : Int) ∧ IntKind.wrap .u64 (1 * 2 ^ (min ((f.p + f.w : Nat) : Int).toNat (IntKind.bits .u64))) ≠ 0) ∨ (decide (((f.p + f.w : Nat) : Int) < 64) = false ∧ b0 = b)) := by
      by_cases h64 : f.p + f.w < 64
      · have e1 : IntKind.wrap .u64 (((1 : Nat) : Int) * 2 ^ (min ((f.p + f.w : Nat) : Int).toNat (IntKind.bits .u64))) = ((1 * 2 ^ (f.p + f.w) : Nat) : Int) := shlU (by rw [Nat.one_mul]; exact Nat.pow_lt_pow_right (by omega) h64) (by omega)
        rw [Nat.one_mul] at e1
        have hl := Nat.mod_lt b0 (Nat.two_pow_pos (f.p + f.w))
        refine ⟨b0 % 2 ^ (f.p + f.w), hl, Nat.lt_of_lt_of_le hl (Nat.pow_le_pow_right (by omega) (by omega)), .inl ⟨decide_eq_true (by omega), ?_, ?_⟩⟩
        · rw [show (1 : Int) = ((1 : Nat) : Int) from rfl, e1, tmodU]
        · rw [show (1 : Int) = ((1 : Nat) : Int) from rfl, e1]; exact two_ne _
      · have e64 : f.p + f.w = 64 := by omega
        exact ⟨b0, by rw [e64]; exact hb0, hb0, .inr ⟨decide_eq_false (by omega), rfl⟩⟩
    obtain ⟨b, hb, hb64, red⟩ := red
    have z : (0 : Int) ≤ ((f.p + f.w : Nat) : Int) := by omega
    obtain ⟨x, ex, red⟩ : ∃ x : Int, x = (b : Int) ∧ ((decide (((f.p + f.w : Nat) : Int) < 64) = true ∧ Int.tmod (b0 : Int) (IntKind.wrap .u64 (1 * 2 ^ (min ((f.p + f.w : Nat) : Int).toNat (IntKind.bits .u64)))) = x ∧ IntKind.wrap .u64 (1 * 2 ^ (min ((f.p + f.w : Nat) : Int).toNat (IntKind.bits .u64))) ≠ 0) ∨ (decide (((f.p + f.w : Nat) : Int) < 64) = false ∧ (b0 : Int) = x)) := ⟨(b : Int), rfl, red.imp id (fun k => ⟨k.1, by rw [k.2]⟩)⟩
    have c1 := fvalI h ex hb64
    have c2 := fclI h ex hb64
    have c3 := fnegI h ex hb64
    have ye : (((b : Nat) : Int) == x) = true := by rw [ex, beq_self_eq_true]
    have z0 := beqN (f.cl b) 0
    rcases Fm.val_cases (f := f) b with ⟨hv, hc⟩ | ⟨hv, _, hc⟩ | ⟨hv, _, hc⟩
    · omega
    · rw [hv, rA_zero'] at c1
      have z1 : decide (((f.cl b : Nat) : Int) ≥ 3) = true := decide_eq_true (by omega)
      rcases red with ⟨zz, eb, nz⟩ | ⟨zz, eb⟩
      · subst eb
        repeat (conv => whnf); first | refine br_tt ?_ | refine br_ff ?_ | refine ⟨_, awake3_snd, ?_⟩ | refine ⟨_, o1, ?_⟩ | refine ⟨_, c1, ?_⟩ | refine ⟨_, c2, ?_⟩ | refine br_t zz ?_ | refine And.intro z ?_ | refine And.intro nz ?_ | refine br_t z1 ?_ | refine And.intro (by kernel_rfl) ?_ | refine And.intro (by decide) ?_
        rfl
      · subst eb
        repeat (conv => whnf); first | refine br_tt ?_ | refine br_ff ?_ | refine ⟨_, awake3_snd, ?_⟩ | refine ⟨_, o1, ?_⟩ | refine ⟨_, c1, ?_⟩ | refine ⟨_, c2, ?_⟩ | refine br_f zz ?_ | refine And.intro z ?_ | refine br_t z1 ?_ | refine And.intro (by kernel_rfl) ?_ | refine And.intro (by decide) ?_
        rfl
    · rw [hv] at c1
      have fw : Few (f.raw b).plain.n := by have := Fm.val_nlen h b; rw [hv] at this; show nlen _ ≤ 31000; dsimp only at this; omega
      have c4 := fput_snd' h fw
      by_cases h0 : f.cl b = 0
      · rw [decide_eq_true h0] at z0
        have hr0 : (f.raw b).n = 0 := Fm.mg_zero.2 h0
        rw [plain_zero hr0, rA_zero'] at c1
        rw [plain_zero hr0, show f.put Dy.zero = (0, 0) by unfold Fm.put; rw [if_pos (by decide +kernel), if_pos (show Dy.zero.n = 0 from rfl)], dA_zero] at c4
        rcases red with ⟨zz, eb, nz⟩ | ⟨zz, eb⟩
        · subst eb
          repeat (conv => whnf); first | refine br_tt ?_ | refine br_ff ?_ | refine ⟨_, awake3_snd, ?_⟩ | refine ⟨_, o1, ?_⟩ | refine ⟨_, c1, ?_⟩ | refine ⟨_, c2, ?_⟩ | refine ⟨_, c4, ?_⟩ | refine br_t zz ?_ | refine And.intro z ?_ | refine And.intro nz ?_ | refine br_t z0 ?_ | refine And.intro (by kernel_rfl) ?_ | refine And.intro (by decide) ?_
          rfl
        · subst eb
          repeat (conv => whnf); first | refine br_tt ?_ | refine br_ff ?_ | refine ⟨_, awake3_snd, ?_⟩ | refine ⟨_, o1, ?_⟩ | refine ⟨_, c1, ?_⟩ | refine ⟨_, c2, ?_⟩ | refine ⟨_, c4, ?_⟩ | refine br_f zz ?_ | refine And.intro z ?_ | refine br_t z0 ?_ | refine And.intro (by kernel_rfl) ?_ | refine And.intro (by decide) ?_
          rfl
      · rw [decide_eq_false h0] at z0
        rw [Fm.put_val h hb hc h0] at c4
        have hr0 : (f.raw b).n ≠ 0 := fun e => h0 (Fm.mg_zero.1 e)
        have hs : (f.raw b).plain.neg = f.sn b := plain_neg hr0
        rcases red with ⟨zz, eb, nz⟩ | ⟨zz, eb⟩
        · subst eb
          repeat (conv => whnf); first | refine br_tt ?_ | refine br_ff ?_ | refine ⟨_, awake3_snd, ?_⟩ | refine ⟨_, o1, ?_⟩ | refine ⟨_, c1, ?_⟩ | refine ⟨_, c2, ?_⟩ | refine ⟨_, c3, ?_⟩ | refine ⟨_, c4, ?_⟩ | refine br_t zz ?_ | refine And.intro z ?_ | refine And.intro nz ?_ | refine br_f z0 ?_ | refine br_t ye ?_ | refine And.intro (by kernel_rfl) ?_ | refine And.intro (by decide) ?_
          show AV.a (.b ((f.raw b).plain.neg == f.sn b)) = _
          rw [hs, beq_self_eq_true]
        · subst eb
          repeat (conv => whnf); first | refine br_tt ?_ | refine br_ff ?_ | refine ⟨_, awake3_snd, ?_⟩ | refine ⟨_, o1, ?_⟩ | refine ⟨_, c1, ?_⟩ | refine ⟨_, c2, ?_⟩ | refine ⟨_, c3, ?_⟩ | refine ⟨_, c4, ?_⟩ | refine br_f zz ?_ | refine And.intro z ?_ | refine br_f z0 ?_ | refine br_t ye ?_ | refine And.intro (by kernel_rfl) ?_ | refine And.intro (by decide) ?_
          show AV.a (.b ((f.raw b).plain.neg == f.sn b)) = _
          rw [hs, beq_self_eq_true]
end Go.Proofs.Ytcpofeipphbceaa.A
