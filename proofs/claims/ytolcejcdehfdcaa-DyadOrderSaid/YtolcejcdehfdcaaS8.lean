/- The law DyadOrder answers true, at every input of its types. -/
import Derived.Test.YtolcejcdehfdcaaS7
import Derived.Test.YtolcejcdehfdcaaN21
set_option linter.unusedVariables false
set_option linter.unusedSimpArgs false
set_option linter.constructorNameAsVariable false
set_option maxRecDepth 100000
set_option maxHeartbeats 4000000
namespace Go.Proofs.Ytolcejcdehfdcaa.A
open Go.RowKit Go.Proofs.Ytolcejcdehfdcaa.P Go.Proofs.YtolcejcdehfdcaaW.PrintWords Go.Proofs.YtolcejcdehfdcaaW.PrintMore Go.Proofs.Ytolcejcdehfdcaa.N Sk Dy
theorem dadd_snd2 {a b : Dy} (ha : Few a.n) (hb : Few b.n) : Snd Try.prog 10 [.g (dA a), .g (dA b)] (rA (Dy.add a b)) := by
  have := dadd_snd (na := a.neg) (nb := b.neg) (ea := a.e) (eb := b.e) (few_ok ha).1 (few_ok hb).1 (few_ok ha).2 (few_ok hb).2
  rwa [nv_parts, nv_parts] at this
theorem dcmp_snd2 {a b : Dy} (ha : Few a.n) (hb : Few b.n) : Snd Try.prog 15 [.g (dA a), .g (dA b)] (cA (Dy.cmp a b)) := by
  have := dcmp_snd (na := a.neg) (nb := b.neg) (ea := a.e) (eb := b.e) (few_ok ha).1 (few_ok hb).1 (few_ok ha).2 (few_ok hb).2
  rwa [nv_parts, nv_parts] at this
/-- A number of at most 20 parts and an exponent from -1000 to 1000: its value. -/
theorem val_of {neg : Bool} {l : List Int} {e : Int} (h : Ok l) (hl : l.length ≤ 20) (h1 : -1000 ≤ e) (h2 : e ≤ 1000) :
    ∃ x : Int, Va ⟨neg, nv l, e⟩ (-1000) x ∧ nlen x.natAbs ≤ 2640 ∧ (⟨neg, nv l, e⟩ : Dy).may = true := by
  have hn := nlen_nv h
  refine ⟨_, va_of (a := ⟨neg, nv l, e⟩) h1, ?_, may_of (k := 640) (by dsimp only; omega) (by omega) (by dsimp only; omega) (by dsimp only; omega)⟩
  have := sv_nlen (a := ⟨neg, nv l, e⟩) (E := -1000) h1
  dsimp only at this
  omega
theorem sI_cases (z : Int) : sI z = -1 ∨ sI z = 0 ∨ sI z = 1 := by unfold sI; split <;> (try split) <;> simp
theorem sI_neg (z : Int) : sI (-z) = -sI z := by unfold sI; split <;> (try split) <;> (try split) <;> (try split) <;> omega
theorem dyadOrder_law (na : Bool) (la : List Int) (ea : Int) (nb : Bool) (lb : List Int) (eb : Int) (nc : Bool) (lc : List Int) (ec : Int) (hwa : ∀ y ∈ la, (Lit.int .u32 y).wf = true) (hya : la.length * 4 ≤ 140737488351232) (hea : (Lit.int .i64 ea).wf = true) (hwb : ∀ y ∈ lb, (Lit.int .u32 y).wf = true) (hyb : lb.length * 4 ≤ 140737488351232) (heb : (Lit.int .i64 eb).wf = true) (hwc : ∀ y ∈ lc, (Lit.int .u32 y).wf = true) (hyc : lc.length * 4 ≤ 140737488351232) (hec : (Lit.int .i64 ec).wf = true) :
    Snd Try.prog 6 [.g (dL na la ea), .g (dL nb lb eb), .g (dL nc lc ec)] (.a (.b true)) := by
  have ha := ok_of_wf hwa
  have hb := ok_of_wf hwb
  have hc := ok_of_wf hwc
  refine snd_of ttOk mixed Try.func6 Try.ntmps6 rfl (by kernel_rfl) rfl ?_
  by_cases ha1 : (la.length : Int) > 20
  · have za1 := decide_eq_true ha1
    repeat (conv => whnf); first | refine ⟨_, awake2_snd, ?_⟩ | refine ⟨9, ?_⟩ | refine br_t za1 ?_ | refine br_tt ?_ | refine br_ff ?_ | refine And.intro (by decide) ?_ | refine And.intro (by kernel_rfl) ?_
    rfl
  have za1 := decide_eq_false ha1
  by_cases ha2 : ea < -1000
  · have za2 := decide_eq_true ha2
    repeat (conv => whnf); first | refine ⟨_, awake2_snd, ?_⟩ | refine ⟨9, ?_⟩ | refine br_f za1 ?_ | refine br_t za2 ?_ | refine br_tt ?_ | refine br_ff ?_ | refine And.intro (by decide) ?_ | refine And.intro (by kernel_rfl) ?_
    rfl
  have za2 := decide_eq_false ha2
  by_cases ha3 : ea > 1000
  · have za3 := decide_eq_true ha3
    repeat (conv => whnf); first | refine ⟨_, awake2_snd, ?_⟩ | refine ⟨9, ?_⟩ | refine br_f za1 ?_ | refine br_f za2 ?_ | refine br_t za3 ?_ | refine br_tt ?_ | refine br_ff ?_ | refine And.intro (by decide) ?_ | refine And.intro (by kernel_rfl) ?_
    rfl
  have za3 := decide_eq_false ha3
  by_cases hb1 : (lb.length : Int) > 20
  · have zb1 := decide_eq_true hb1
    repeat (conv => whnf); first | refine ⟨_, awake2_snd, ?_⟩ | refine ⟨9, ?_⟩ | refine br_f za1 ?_ | refine br_f za2 ?_ | refine br_f za3 ?_ | refine br_t zb1 ?_ | refine br_tt ?_ | refine br_ff ?_ | refine And.intro (by decide) ?_ | refine And.intro (by kernel_rfl) ?_
    rfl
  have zb1 := decide_eq_false hb1
  by_cases hb2 : eb < -1000
  · have zb2 := decide_eq_true hb2
    repeat (conv => whnf); first | refine ⟨_, awake2_snd, ?_⟩ | refine ⟨9, ?_⟩ | refine br_f za1 ?_ | refine br_f za2 ?_ | refine br_f za3 ?_ | refine br_f zb1 ?_ | refine br_t zb2 ?_ | refine br_tt ?_ | refine br_ff ?_ | refine And.intro (by decide) ?_ | refine And.intro (by kernel_rfl) ?_
    rfl
  have zb2 := decide_eq_false hb2
  by_cases hb3 : eb > 1000
  · have zb3 := decide_eq_true hb3
    repeat (conv => whnf); first | refine ⟨_, awake2_snd, ?_⟩ | refine ⟨9, ?_⟩ | refine br_f za1 ?_ | refine br_f za2 ?_ | refine br_f za3 ?_ | refine br_f zb1 ?_ | refine br_f zb2 ?_ | refine br_t zb3 ?_ | refine br_tt ?_ | refine br_ff ?_ | refine And.intro (by decide) ?_ | refine And.intro (by kernel_rfl) ?_
    rfl
  have zb3 := decide_eq_false hb3
  by_cases hc1 : (lc.length : Int) > 20
  · have zc1 := decide_eq_true hc1
    repeat (conv => whnf); first | refine ⟨_, awake2_snd, ?_⟩ | refine ⟨9, ?_⟩ | refine br_f za1 ?_ | refine br_f za2 ?_ | refine br_f za3 ?_ | refine br_f zb1 ?_ | refine br_f zb2 ?_ | refine br_f zb3 ?_ | refine br_t zc1 ?_ | refine br_tt ?_ | refine br_ff ?_ | refine And.intro (by decide) ?_ | refine And.intro (by kernel_rfl) ?_
    rfl
  have zc1 := decide_eq_false hc1
  by_cases hc2 : ec < -1000
  · have zc2 := decide_eq_true hc2
    repeat (conv => whnf); first | refine ⟨_, awake2_snd, ?_⟩ | refine ⟨9, ?_⟩ | refine br_f za1 ?_ | refine br_f za2 ?_ | refine br_f za3 ?_ | refine br_f zb1 ?_ | refine br_f zb2 ?_ | refine br_f zb3 ?_ | refine br_f zc1 ?_ | refine br_t zc2 ?_ | refine br_tt ?_ | refine br_ff ?_ | refine And.intro (by decide) ?_ | refine And.intro (by kernel_rfl) ?_
    rfl
  have zc2 := decide_eq_false hc2
  by_cases hc3 : ec > 1000
  · have zc3 := decide_eq_true hc3
    repeat (conv => whnf); first | refine ⟨_, awake2_snd, ?_⟩ | refine ⟨9, ?_⟩ | refine br_f za1 ?_ | refine br_f za2 ?_ | refine br_f za3 ?_ | refine br_f zb1 ?_ | refine br_f zb2 ?_ | refine br_f zb3 ?_ | refine br_f zc1 ?_ | refine br_f zc2 ?_ | refine br_t zc3 ?_ | refine br_tt ?_ | refine br_ff ?_ | refine And.intro (by decide) ?_ | refine And.intro (by kernel_rfl) ?_
    rfl
  have zc3 := decide_eq_false hc3
  obtain ⟨xa, va, ba, ma⟩ := val_of (neg := na) (l := la) (e := ea) ha (by omega) (by omega) (by omega)
  have ka : la.length ≤ 1000 := by omega
  obtain ⟨xb, vb, bb, mb⟩ := val_of (neg := nb) (l := lb) (e := eb) hb (by omega) (by omega) (by omega)
  have kb : lb.length ≤ 1000 := by omega
  obtain ⟨xc, vc, bc, mc⟩ := val_of (neg := nc) (l := lc) (e := ec) hc (by omega) (by omega) (by omega)
  have kc : lc.length ≤ 1000 := by omega
  have i1 := nlen_addI xa (-xb)
  have i2 := nlen_addI xa xc
  have i3 := nlen_addI xb xc
  have i4 := nlen_negI xb
  obtain ⟨d, ed, vd, md, pd, nd⟩ := add_va ma (show (turned ⟨nb, nv lb, eb⟩).may = true from mb) va vb.turned (by omega) (by omega) (by omega)
  obtain ⟨s, es, vs, ms, ps, ns⟩ := add_va ma mc va vc (by omega) (by omega) (by omega)
  obtain ⟨t, et, vt, mt, pt, nt⟩ := add_va mb mc vb vc (by omega) (by omega) (by omega)
  have fd : Few d.n := by show nlen _ ≤ 31000; omega
  have fs : Few s.n := by show nlen _ ≤ 31000; omega
  have ft : Few t.n := by show nlen _ ≤ 31000; omega
  have c1 := dsub_snd (na := na) (nb := nb) (ea := ea) (eb := eb) ha hb ka kb
  rw [ed] at c1
  have c2 := dcmp_snd (na := na) (nb := nb) (ea := ea) (eb := eb) ha hb ka kb
  rw [cmp_va ma mb va vb] at c2
  have zm : Dy.zero.may = true := by decide +kernel
  have c3 := dcmp_snd2 (a := d) (b := Dy.zero) fd (by show nlen _ ≤ 31000; rw [zero_nlen]; omega)
  rw [cmp_va md zm vd (Va.zero (a := Dy.zero) rfl (-1000)), dA_zero, show xa + -xb - 0 = xa - xb by omega] at c3
  have c4 := dcmp_snd (na := nb) (nb := na) (ea := eb) (eb := ea) hb ha kb ka
  rw [cmp_va mb ma vb va, show xb - xa = -(xa - xb) by omega, sI_neg] at c4
  have c5 := dadd_snd (na := na) (nb := nc) (ea := ea) (eb := ec) ha hc ka kc
  rw [es] at c5
  have c6 := dadd_snd (na := nb) (nb := nc) (ea := eb) (eb := ec) hb hc kb kc
  rw [et] at c6
  have c7 := dcmp_snd2 fs ft
  rw [cmp_va ms mt vs vt, show xa + xc - (xb + xc) = xa - xb by omega] at c7
  have hx := sI_cases (xa - xb)
  generalize sI (xa - xb) = X at *
  have y1 : (X == X) = true := by simp
  have y2 : (X == IntKind.wrap .i64 (0 - -X)) = true := by rcases hx with e | e | e <;> rw [e] <;> decide +kernel
  repeat (conv => whnf); first | refine ⟨_, awake2_snd, ?_⟩ | refine ⟨9, ?_⟩ | refine ⟨_, c1, ?_⟩ | refine ⟨_, c2, ?_⟩ | refine ⟨_, c3, ?_⟩ | refine ⟨_, c4, ?_⟩ | refine ⟨_, c5, ?_⟩ | refine ⟨_, c6, ?_⟩ | refine ⟨_, c7, ?_⟩ | refine br_f za1 ?_ | refine br_f za2 ?_ | refine br_f za3 ?_ | refine br_f zb1 ?_ | refine br_f zb2 ?_ | refine br_f zb3 ?_ | refine br_f zc1 ?_ | refine br_f zc2 ?_ | refine br_f zc3 ?_ | refine br_t y1 ?_ | refine br_t y2 ?_ | refine br_tt ?_ | refine br_ff ?_ | refine And.intro (by decide) ?_ | refine And.intro (by kernel_rfl) ?_
  show AV.a (.b (X == X)) = _
  rw [y1]
end Go.Proofs.Ytolcejcdehfdcaa.A
