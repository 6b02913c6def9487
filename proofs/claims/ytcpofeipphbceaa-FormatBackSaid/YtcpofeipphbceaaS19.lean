/- The laws FormatTells and FormatPuts answer true, at every input of their types. -/
import Derived.Test.YtcpofeipphbceaaS18
set_option linter.unusedVariables false
set_option linter.unusedSimpArgs false
set_option linter.constructorNameAsVariable false
set_option linter.unusedSectionVars false
set_option maxRecDepth 100000
set_option maxHeartbeats 4000000
namespace Go.Proofs.Ytcpofeipphbceaa.A
open Go.RowKit Go.Proofs.Ytcpofeipphbceaa.P Go.Proofs.YtcpofeipphbceaaW.PrintWords Go.Proofs.YtcpofeipphbceaaW.PrintMore Go.Proofs.Ytcpofeipphbceaa.N Sk Dy
theorem u64_nat {x : Int} (h : (Lit.int .u64 x).wf = true) : ∃ n : Nat, x = n ∧ n < 2 ^ 64 := by
  have := wf_u64 h
  exact ⟨x.toNat, by omega, by omega⟩
theorem form_ne (f : Fm) : (!(((f.p + f.w : Nat) : Int) == ((f.p + f.w : Nat) : Int) && (((f.p : Nat) : Int) == ((f.p : Nat) : Int) && (((f.w : Nat) : Int) == ((f.w : Nat) : Int) && true)))) = false := by simp
theorem formatTells_law (bits x : Int) (neg : Bool) (hbits : (Lit.int .i64 bits).wf = true) (hx : (Lit.int .u64 x).wf = true) :
    Snd Try.prog 3 [.a (iA bits), .a (.i .u64 x), .a (.b neg)] (.a (.b true)) := by
  obtain ⟨b, rfl, hb⟩ := u64_nat hx
  have o1 := fof_snd bits
  have o2 := rof3_snd bits
  refine snd_of ttOk mixed Try.func3 Try.ntmps3 rfl (by kernel_rfl) rfl ?_
  cases hf : fmOf bits with
  | none =>
    rw [hf] at o1 o2
    repeat (conv => whnf); first | refine br_tt ?_ | refine br_ff ?_ | refine ⟨_, awake3_snd, ?_⟩ | refine ⟨_, o1, ?_⟩ | refine ⟨_, o2, ?_⟩ | refine And.intro (by kernel_rfl) ?_ | refine And.intro (by decide) ?_
    rfl
  | some f =>
    rw [hf] at o1 o2
    obtain ⟨h, hbt⟩ := fmOf_ok hf
    have c1 := rparts_snd3 h hb
    have c2 := fval_snd h hb
    have c3 := rval_snd h hb
    have hn := Fm.val_nlen h b
    have i1 := low_snd h
    have i2 := rlow_snd h
    have i3 := bias_snd h
    have i4 := rbias_snd h
    have i5 := fmay_snd h hb
    have i6 := fcl_snd h hb
    have i7 := rcl_snd h hb
    have i8 := fneg_snd h hb
    have i9 := finf_snd h neg
    have i10 := rinf_snd h neg
    have i11 := fgrt_snd h neg
    have i12 := rgrt_snd h neg
    have i13 := fnought_snd h neg
    have i14 := rbld_snd h (neg := neg) (e := 0) (x := 0) (Nat.two_pow_pos _) (Nat.two_pow_pos _)
    have i15 := fnone_snd h
    have i16 := rnone_snd h
    have i17 := fqui_snd h hb
    have i18 := rqui_snd h hb
    generalize f.val b = v at *
    have i19 := rparts_snd (n := v.1.n) (by omega)
    have i20 := (rsame_snd (a := parts v.1.n) (b := parts v.1.n) (by have := (few_ok (n := v.1.n) (by show nlen _ ≤ 31000; omega)).2; omega)).to (r' := .a (.b true)) (by rw [decide_eq_true rfl])
    have y1 : (decide (b < 2 ^ (f.p + f.w)) == !decide (2 ^ (f.p + f.w) ≤ b)) = true := by
      by_cases hh : b < 2 ^ (f.p + f.w)
      · rw [decide_eq_true hh, decide_eq_false (by omega)]; rfl
      · rw [decide_eq_false hh, decide_eq_true (by omega)]; rfl
    have y2 : (f.sn b == (((sb f b : Nat) : Int) == 1)) = true := by rw [sb_eq h]; simp
    have y0 := form_ne f
    repeat (conv => whnf); first | refine br_tt ?_ | refine br_ff ?_ | refine ⟨_, awake3_snd, ?_⟩ | refine ⟨_, o1, ?_⟩ | refine ⟨_, o2, ?_⟩ | refine ⟨_, c1, ?_⟩ | refine ⟨_, c2, ?_⟩ | refine ⟨_, c3, ?_⟩ | refine ⟨_, i1, ?_⟩ | refine ⟨_, i2, ?_⟩ | refine ⟨_, i3, ?_⟩ | refine ⟨_, i4, ?_⟩ | refine ⟨_, i5, ?_⟩ | refine ⟨_, i6, ?_⟩ | refine ⟨_, i7, ?_⟩ | refine ⟨_, i8, ?_⟩ | refine ⟨_, i9, ?_⟩ | refine ⟨_, i10, ?_⟩ | refine ⟨_, i11, ?_⟩ | refine ⟨_, i12, ?_⟩ | refine ⟨_, i13, ?_⟩ | refine ⟨_, i14, ?_⟩ | refine ⟨_, i15, ?_⟩ | refine ⟨_, i16, ?_⟩ | refine ⟨_, i17, ?_⟩ | refine ⟨_, i18, ?_⟩ | refine ⟨_, i19, ?_⟩ | refine ⟨_, i20, ?_⟩ | refine br_f y0 ?_ | refine br_t y1 ?_ | refine br_t y2 ?_ | refine br_t (beq_self_eq_true _) ?_ | refine And.intro (by kernel_rfl) ?_ | refine And.intro (by decide) ?_
    show AV.a (.b (((f.qui b : Nat) : Int) == ((f.qui b : Nat) : Int))) = _
    rw [beq_self_eq_true]
theorem formatPuts_law (bits : Int) (neg : Bool) (l : List Int) (e : Int) (hbits : (Lit.int .i64 bits).wf = true) (hw : ∀ y ∈ l, (Lit.int .u32 y).wf = true) (hy : l.length * 4 ≤ 140737488351232) (he : (Lit.int .i64 e).wf = true) :
    Snd Try.prog 4 [.a (iA bits), .g (dL neg l e)] (.a (.b true)) := by
  have ha := ok_of_wf hw
  have o1 := fof_snd bits
  have o2 := rof3_snd bits
  refine snd_of ttOk mixed Try.func4 Try.ntmps4 rfl (by kernel_rfl) rfl ?_
  cases hf : fmOf bits with
  | none =>
    rw [hf] at o1 o2
    repeat (conv => whnf); first | refine br_tt ?_ | refine br_ff ?_ | refine ⟨_, awake3_snd, ?_⟩ | refine ⟨_, o1, ?_⟩ | refine ⟨_, o2, ?_⟩ | refine And.intro (by kernel_rfl) ?_ | refine And.intro (by decide) ?_
    rfl
  | some f =>
    rw [hf] at o1 o2
    obtain ⟨h, hbt⟩ := fmOf_ok hf
    by_cases h1 : (l.length : Int) > 140
    · have z1 := decide_eq_true h1
      repeat (conv => whnf); first | refine br_tt ?_ | refine br_ff ?_ | refine ⟨_, awake3_snd, ?_⟩ | refine ⟨_, o1, ?_⟩ | refine ⟨_, o2, ?_⟩ | refine br_t z1 ?_ | refine And.intro (by kernel_rfl) ?_ | refine And.intro (by decide) ?_
      rfl
    have z1 := decide_eq_false h1
    have c1 := fput_snd h (neg := neg) (e := e) ha (by omega)
    have c2 := r2of_snd (neg := neg) (e := e) ha (by omega)
    have c3 := rput_snd h (a := ⟨neg, nv l, e⟩)
    generalize f.put ⟨neg, nv l, e⟩ = r at *
    repeat (conv => whnf); first | refine br_tt ?_ | refine br_ff ?_ | refine ⟨_, awake3_snd, ?_⟩ | refine ⟨_, o1, ?_⟩ | refine ⟨_, o2, ?_⟩ | refine ⟨_, c1, ?_⟩ | refine ⟨_, c2, ?_⟩ | refine ⟨_, c3, ?_⟩ | refine br_f z1 ?_ | refine br_t (beq_self_eq_true _) ?_ | refine And.intro (by kernel_rfl) ?_ | refine And.intro (by decide) ?_
    show AV.a (.b (r.2 == r.2)) = _
    rw [beq_self_eq_true]
end Go.Proofs.Ytcpofeipphbceaa.A
