/- The laws FormatOrder and FormatNext answer true, at every input of their types. -/
import Derived.Test.YtcpofeipphbceaaS20
import Derived.Test.YtcpofeipphbceaaS8
set_option linter.unusedVariables false
set_option linter.unusedSimpArgs false
set_option linter.constructorNameAsVariable false
set_option linter.unusedSectionVars false
set_option maxRecDepth 100000
set_option maxHeartbeats 4000000
namespace Go.Proofs.Ytcpofeipphbceaa.A
open Go.RowKit Go.Proofs.Ytcpofeipphbceaa.P Go.Proofs.YtcpofeipphbceaaW.PrintWords Go.Proofs.YtcpofeipphbceaaW.PrintMore Go.Proofs.Ytcpofeipphbceaa.N Sk Dy
theorem dsub_snd2 {a b : Dy} (ha : Few a.n) (hb : Few b.n) : Snd Try.prog 38 [.g (dA a), .g (dA b)] (rA (Dy.add a (Dy.turned b))) := by
  have := dsub_snd (na := a.neg) (nb := b.neg) (ea := a.e) (eb := b.e) (few_ok ha).1 (few_ok hb).1 (few_ok ha).2 (few_ok hb).2
  rwa [nv_parts, nv_parts] at this
theorem few_val {f : Fm} (h : f.ok) (b : Nat) : Few (f.val b).1.n := by have := Fm.val_nlen h b; show nlen _ ≤ 31000; omega
theorem sI_lt (x y : Nat) : decide (sI ((x : Int) - (y : Int)) < 0) = decide (x < y) := by
  refine decide_eq_decide.2 ?_; unfold sI; split <;> (try split) <;> omega
theorem sI_eq (x y : Nat) : (sI ((x : Int) - (y : Int)) == 0) = decide (x = y) := by
  by_cases h : x = y
  · subst h; rw [Int.sub_self]; simp [sI]
  · rw [decide_eq_false h, beq_eq_false_iff_ne]; unfold sI; split <;> (try split) <;> omega
theorem half_red (f : Fm) (h : f.ok) (a : Nat) : Int.tmod (a : Int) ((f.bld true 0 0 : Nat) : Int) = ((a % 2 ^ (f.p + f.w - 1) : Nat) : Int) := by rw [tmodU, bld_zz h, if_pos rfl]
theorem half_ne (f : Fm) (h : f.ok) : ((f.bld true 0 0 : Nat) : Int) ≠ 0 := by rw [bld_zz h, if_pos rfl]; exact two_ne _
theorem formatOrder_law (bits x y : Int) (hbits : (Lit.int .i64 bits).wf = true) (hx : (Lit.int .u64 x).wf = true) (hy : (Lit.int .u64 y).wf = true) :
    Snd Try.prog 6 [.a (iA bits), .a (.i .u64 x), .a (.i .u64 y)] (.a (.b true)) := by
  obtain ⟨a0, rfl, ha0⟩ := u64_nat hx
  obtain ⟨b0, rfl, hb0⟩ := u64_nat hy
  have o1 := fof_snd bits
  refine snd_of ttOk mixed Try.func6 Try.ntmps6 rfl (by kernel_rfl) rfl ?_
  cases hf : fmOf bits with
  | none =>
    rw [hf] at o1
    repeat (conv => whnf); first | refine br_tt ?_ | refine br_ff ?_ | refine ⟨_, awake3_snd, ?_⟩ | refine ⟨_, o1, ?_⟩ | refine And.intro (by kernel_rfl) ?_ | refine And.intro (by decide) ?_
    rfl
  | some f =>
    rw [hf] at o1
    obtain ⟨h, hbt⟩ := fmOf_ok hf
    have hB := Fm.bounds h
    have hnz := half_ne f h
    have ra := half_red f h a0
    have rb := half_red f h b0
    have la := Nat.mod_lt a0 (Nat.two_pow_pos (f.p + f.w - 1))
    have lb := Nat.mod_lt b0 (Nat.two_pow_pos (f.p + f.w - 1))
    generalize a0 % 2 ^ (f.p + f.w - 1) = a at *
    generalize b0 % 2 ^ (f.p + f.w - 1) = b at *
    have hh := Fm.half_lt h
    have h64 : 2 ^ (f.p + f.w) ≤ 2 ^ 64 := Nat.pow_le_pow_right (by omega) (by omega)
    have c1 := fnought_snd h true
    have c2 := fvalI h ra (by omega)
    have c3 := fvalI h rb (by omega)
    have c4 := fgrt_snd h false
    have c5 := finf_snd h false
    have c6 := fgrt_snd h true
    have c7 := finf_snd h true
    have c8 := fnone_snd h
    have c9 := (fcl_snd h (b := f.grt true) (by rcases h with rfl | rfl | rfl <;> decide)).to (r' := .a (iA 2)) (by rcases h with rfl | rfl | rfl <;> kernel_rfl)
    have c10 := (fcl_snd h (b := f.inf true) (by rcases h with rfl | rfl | rfl <;> decide)).to (r' := .a (iA 3)) (by rcases h with rfl | rfl | rfl <;> kernel_rfl)
    have c11 := (fcl_snd h (b := f.non) (by rcases h with rfl | rfl | rfl <;> decide)).to (r' := .a (iA 4)) (by rcases h with rfl | rfl | rfl <;> kernel_rfl)
    have y0 : (IntKind.wrap .u64 (((f.grt false : Nat) : Int) + 1) != ((f.inf false : Nat) : Int)) = false := by rcases h with rfl | rfl | rfl <;> decide +kernel
    have c12 := dcmp_snd2 (few_val h a) (few_val h b)
    rcases Fm.val_cases (f := f) a with ⟨hv, hc⟩ | ⟨hv, _, hc⟩ | ⟨hv, _, hc⟩
    · omega
    · rw [hv, rA_zero'] at c2
      generalize f.val b = vb at *
      repeat (conv => whnf); first | refine br_tt ?_ | refine br_ff ?_ | refine ⟨_, awake3_snd, ?_⟩ | refine ⟨_, o1, ?_⟩ | refine ⟨_, c1, ?_⟩ | refine ⟨_, c2, ?_⟩ | refine ⟨_, c3, ?_⟩ | refine ⟨_, c4, ?_⟩ | refine ⟨_, c5, ?_⟩ | refine ⟨_, c6, ?_⟩ | refine ⟨_, c7, ?_⟩ | refine ⟨_, c8, ?_⟩ | refine ⟨_, c9, ?_⟩ | refine ⟨_, c10, ?_⟩ | refine ⟨_, c11, ?_⟩ | refine And.intro hnz ?_ | refine br_f y0 ?_ | refine And.intro (by kernel_rfl) ?_ | refine And.intro (by decide) ?_
      rfl
    rcases Fm.val_cases (f := f) b with ⟨hw, hd⟩ | ⟨hw, _, hd⟩ | ⟨hw, _, hd⟩
    · omega
    · rw [hw, rA_zero'] at c3
      rw [hv] at c2
      repeat (conv => whnf); first | refine br_tt ?_ | refine br_ff ?_ | refine ⟨_, awake3_snd, ?_⟩ | refine ⟨_, o1, ?_⟩ | refine ⟨_, c1, ?_⟩ | refine ⟨_, c2, ?_⟩ | refine ⟨_, c3, ?_⟩ | refine ⟨_, c4, ?_⟩ | refine ⟨_, c5, ?_⟩ | refine ⟨_, c6, ?_⟩ | refine ⟨_, c7, ?_⟩ | refine ⟨_, c8, ?_⟩ | refine ⟨_, c9, ?_⟩ | refine ⟨_, c10, ?_⟩ | refine ⟨_, c11, ?_⟩ | refine And.intro hnz ?_ | refine br_f y0 ?_ | refine And.intro (by kernel_rfl) ?_ | refine And.intro (by decide) ?_
      rfl
    have va := (Fm.raw_va (f := f) a).plain
    have vb := (Fm.raw_va (f := f) b).plain
    rw [Fm.sn_low h la, if_neg (by simp)] at va
    rw [Fm.sn_low h lb, if_neg (by simp)] at vb
    have ma := Fm.val_may h a
    have mb := Fm.val_may h b
    rw [hv] at c2 c12 ma
    rw [hw] at c3 c12 mb
    rw [cmp_va ma mb va vb] at c12
    have key : (f.sz a < f.sz b ↔ a < b) ∧ (f.sz a = f.sz b ↔ a = b) := by
      have k1 := @Fm.sz_lt f h a b
      have k2 := @Fm.sz_lt f h b a
      refine ⟨⟨fun k => ?_, fun k => k1 k lb⟩, ⟨fun k => ?_, fun k => by rw [k]⟩⟩
      · apply Classical.byContradiction; intro n
        by_cases e : a = b
        · subst e; omega
        · have := k2 (by omega) la; omega
      · apply Classical.byContradiction; intro n
        by_cases e : a < b
        · have := k1 e lb; omega
        · have := k2 (by omega) la; omega
    have e1 : (decide (sI (((f.sz a : Nat) : Int) - ((f.sz b : Nat) : Int)) < 0) == decide (Int.tmod (a0 : Int) ((f.bld true 0 0 : Nat) : Int) < Int.tmod (b0 : Int) ((f.bld true 0 0 : Nat) : Int))) = true := by
      rw [ra, rb, sI_lt, show decide (((a : Nat) : Int) < ((b : Nat) : Int)) = decide (a < b) from decide_eq_decide.2 (by omega), decide_eq_decide.2 key.1, beq_self_eq_true]
    have e2 : ((sI (((f.sz a : Nat) : Int) - ((f.sz b : Nat) : Int)) == 0) == (Int.tmod (a0 : Int) ((f.bld true 0 0 : Nat) : Int) == Int.tmod (b0 : Int) ((f.bld true 0 0 : Nat) : Int))) = true := by
      rw [ra, rb, sI_eq, beqN, decide_eq_decide.2 key.2, beq_self_eq_true]
    repeat (conv => whnf); first | refine br_tt ?_ | refine br_ff ?_ | refine ⟨_, awake3_snd, ?_⟩ | refine ⟨_, o1, ?_⟩ | refine ⟨_, c1, ?_⟩ | refine ⟨_, c2, ?_⟩ | refine ⟨_, c3, ?_⟩ | refine ⟨_, c4, ?_⟩ | refine ⟨_, c5, ?_⟩ | refine ⟨_, c6, ?_⟩ | refine ⟨_, c7, ?_⟩ | refine ⟨_, c8, ?_⟩ | refine ⟨_, c9, ?_⟩ | refine ⟨_, c10, ?_⟩ | refine ⟨_, c11, ?_⟩ | refine ⟨_, c12, ?_⟩ | refine And.intro hnz ?_ | refine br_f y0 ?_ | refine br_t e1 ?_ | refine br_t e2 ?_ | refine And.intro (by kernel_rfl) ?_ | refine And.intro (by decide) ?_
    show AV.a (.b ((sI (((f.sz a : Nat) : Int) - ((f.sz b : Nat) : Int)) == 0) == (Int.tmod (a0 : Int) ((f.bld true 0 0 : Nat) : Int) == Int.tmod (b0 : Int) ((f.bld true 0 0 : Nat) : Int)))) = _
    rw [e2]
theorem formatNext_law (bits x : Int) (hbits : (Lit.int .i64 bits).wf = true) (hx : (Lit.int .u64 x).wf = true) :
    Snd Try.prog 7 [.a (iA bits), .a (.i .u64 x)] (.a (.b true)) := by
  obtain ⟨b0, rfl, hb0⟩ := u64_nat hx
  have o1 := fof_snd bits
  refine snd_of ttOk mixed Try.func7 Try.ntmps7 rfl (by kernel_rfl) rfl ?_
  cases hf : fmOf bits with
  | none =>
    rw [hf] at o1
    repeat (conv => whnf); first | refine br_tt ?_ | refine br_ff ?_ | refine ⟨_, awake3_snd, ?_⟩ | refine ⟨_, o1, ?_⟩ | refine And.intro (by kernel_rfl) ?_ | refine And.intro (by decide) ?_
    rfl
  | some f =>
    rw [hf] at o1
    obtain ⟨h, hbt⟩ := fmOf_ok hf
    have hB := Fm.bounds h
    have hnz := half_ne f h
    have rb := half_red f h b0
    have lb := Nat.mod_lt b0 (Nat.two_pow_pos (f.p + f.w - 1))
    generalize b0 % 2 ^ (f.p + f.w - 1) = b at *
    have hh := Fm.half_lt h
    have h64 : 2 ^ (f.p + f.w) ≤ 2 ^ 64 := Nat.pow_le_pow_right (by omega) (by omega)
    have c1 := fnought_snd h true
    have c2 := fvalI h rb (by omega)
    have c3 := fval_snd h (b := b + 1) (by omega)
    have rb1 : IntKind.wrap .u64 (Int.tmod (b0 : Int) ((f.bld true 0 0 : Nat) : Int) + 1) = ((b + 1 : Nat) : Int) := by rw [rb, wU (by omega) (by omega)]; omega
    have c3' : Snd Try.prog 12 [.g (fmA f), .a (.i .u64 (IntKind.wrap .u64 (Int.tmod (b0 : Int) ((f.bld true 0 0 : Nat) : Int) + 1)))] (rA (f.val (b + 1))) := by rw [rb1]; exact c3
    have c4 := dsub_snd2 (few_val h (b + 1)) (few_val h b)
    have c5 := low_snd h
    rcases Fm.val_cases (f := f) b with ⟨hv, hc⟩ | ⟨hv, _, hc⟩ | ⟨hv, _, hc⟩
    · omega
    · rw [hv, rA_zero'] at c2
      generalize f.val (b + 1) = vb at *
      repeat (conv => whnf); first | refine br_tt ?_ | refine br_ff ?_ | refine ⟨_, awake3_snd, ?_⟩ | refine ⟨_, o1, ?_⟩ | refine ⟨_, c1, ?_⟩ | refine ⟨_, c2, ?_⟩ | refine ⟨_, c3', ?_⟩ | refine And.intro hnz ?_ | refine And.intro (by kernel_rfl) ?_ | refine And.intro (by decide) ?_
      rfl
    have hn := Fm.next_low h lb hc
    rcases Fm.val_cases (f := f) (b + 1) with ⟨hw, hd⟩ | ⟨hw, _, hd⟩ | ⟨hw, _, hd⟩
    · omega
    · rw [hw, rA_zero'] at c3'
      rw [hv] at c2
      repeat (conv => whnf); first | refine br_tt ?_ | refine br_ff ?_ | refine ⟨_, awake3_snd, ?_⟩ | refine ⟨_, o1, ?_⟩ | refine ⟨_, c1, ?_⟩ | refine ⟨_, c2, ?_⟩ | refine ⟨_, c3', ?_⟩ | refine And.intro hnz ?_ | refine And.intro (by kernel_rfl) ?_ | refine And.intro (by decide) ?_
      rfl
    have va := (Fm.raw_va (f := f) b).plain
    have vb := (Fm.raw_va (f := f) (b + 1)).plain
    rw [Fm.sn_low h lb, if_neg (by simp)] at va
    rw [Fm.sn_low h hn, if_neg (by simp)] at vb
    have ma := Fm.val_may h b
    have mb := Fm.val_may h (b + 1)
    have hvm : f.val b = ((f.raw b).plain, 0) := hv
    rw [hv] at c2 c4 ma
    rw [hw] at c3' c4 mb
    have st := Fm.sz_step h hn
    have exl := Fm.ex_cl hc h
    have hw11 : 2 ^ f.w ≤ 2 ^ 11 := Nat.pow_le_pow_right (by omega) (by omega)
    have hdif : ((f.sz (b + 1) : Nat) : Int) + -((f.sz b : Nat) : Int) = ((2 ^ (f.ex b - 1) : Nat) : Int) := by rw [st]; omega
    have hnl : nlen (((f.sz (b + 1) : Nat) : Int) + -((f.sz b : Nat) : Int)).natAbs = f.ex b - 1 + 1 := by rw [hdif, Int.natAbs_natCast]; exact nlen_two_pow _
    obtain ⟨r, er, vr, mr, pr, nr⟩ := add_va (a := (f.raw (b + 1)).plain) (b := Dy.turned (f.raw b).plain) mb (show (Dy.turned (f.raw b).plain).may = true from ma) vb va.turned (by omega) (by omega) (by omega)
    rw [hdif] at vr
    have rr := va_pow vr pr
    have c4' := c4.to (rA_lit (neg := false) (n := 1) (l := [1]) (e := f.low + ((f.ex b - 1 : Nat) : Int)) (m := 0) (by rw [er, rr]) (by decide +kernel))
    have z : (0 : Int) ≤ IntKind.wrap .i64 ((f.p : Int) - 1) := by rw [wI_p1 h]; omega
    have exb : b / 2 ^ (f.p - 1) = f.ex b := by
      unfold Fm.ex; rw [Nat.mod_eq_of_lt]
      rw [Nat.div_lt_iff_lt_mul (Nat.two_pow_pos _), ← Nat.pow_add, show f.w + (f.p - 1) = f.p + f.w - 1 by omega]; exact lb
    have hX : IntKind.wrap .i64 (Int.fdiv (Int.tmod (b0 : Int) ((f.bld true 0 0 : Nat) : Int)) (2 ^ (min (IntKind.wrap .i64 ((f.p : Int) - 1)).toNat (IntKind.bits .u64)))) = ((f.ex b : Nat) : Int) := by
      rw [rb, wI_p1 h, shrU (by omega), exb, wI (by omega) (by omega)]
    have hP : (f.low + ((f.ex b - 1 : Nat) : Int) == IntKind.wrap .i64 (IntKind.wrap .i64 (f.low + (if 1 > IntKind.wrap .i64 (Int.fdiv (Int.tmod (b0 : Int) ((f.bld true 0 0 : Nat) : Int)) (2 ^ (min (IntKind.wrap .i64 ((f.p : Int) - 1)).toNat (IntKind.bits .u64)))) then 1 else IntKind.wrap .i64 (Int.fdiv (Int.tmod (b0 : Int) ((f.bld true 0 0 : Nat) : Int)) (2 ^ (min (IntKind.wrap .i64 ((f.p : Int) - 1)).toNat (IntKind.bits .u64)))))) - 1)) = true := by
      rw [hX, beq_iff_eq]
      have e : (if (1 : Int) > ((f.ex b : Nat) : Int) then (1 : Int) else ((f.ex b : Nat) : Int)) = ((f.ex b - 1 : Nat) : Int) + 1 := by split <;> omega
      rw [e, wI (x := f.low + _) (by omega) (by omega), wI (by omega) (by omega)]; omega
    repeat (conv => whnf); first | refine br_tt ?_ | refine br_ff ?_ | refine ⟨_, awake3_snd, ?_⟩ | refine ⟨_, o1, ?_⟩ | refine ⟨_, c1, ?_⟩ | refine ⟨_, c2, ?_⟩ | refine ⟨_, c3', ?_⟩ | refine ⟨_, c4', ?_⟩ | refine ⟨_, c5, ?_⟩ | refine And.intro hnz ?_ | refine And.intro z ?_ | refine br_t hP ?_ | refine And.intro (by kernel_rfl) ?_ | refine And.intro (by decide) ?_
    rfl
end Go.Proofs.Ytcpofeipphbceaa.A
