/- The law DyadTurns answers true, at every input of its types. -/
import Derived.Test.YtolcejcdehfdcaaS8
set_option linter.unusedVariables false
set_option linter.unusedSimpArgs false
set_option linter.constructorNameAsVariable false
set_option maxRecDepth 100000
set_option maxHeartbeats 4000000
namespace Go.Proofs.Ytolcejcdehfdcaa.A
open Go.RowKit Go.Proofs.Ytolcejcdehfdcaa.P Go.Proofs.YtolcejcdehfdcaaW.PrintWords Go.Proofs.YtolcejcdehfdcaaW.PrintMore Go.Proofs.Ytolcejcdehfdcaa.N Sk Dy
/-- Three numbers at places of their own: so that products stay short. -/
theorem scale_of {a b c : Dy} (ha : nlen a.n ≤ 640) (hb : nlen b.n ≤ 640) (hc : nlen c.n ≤ 640) (ea : -1000 ≤ a.e ∧ a.e ≤ 1000) (eb : -1000 ≤ b.e ∧ b.e ≤ 1000) (ec : -1000 ≤ c.e ∧ c.e ≤ 1000) :
    ∃ (x y z E : Int), Va a E x ∧ Va b E y ∧ Va c c.e z ∧ nlen x.natAbs ≤ 2640 ∧ nlen y.natAbs ≤ 2640 ∧ nlen z.natAbs ≤ 640 ∧ (-1000 ≤ E ∧ E ≤ 1000 ∧ -2000 ≤ E + c.e) := by
  refine ⟨a.sv (min a.e b.e), b.sv (min a.e b.e), c.sv c.e, min a.e b.e, va_of (by omega), va_of (by omega), va_of (Int.le_refl _), ?_, ?_, ?_, by omega, by omega, by omega⟩
  · have := sv_nlen (a := a) (E := min a.e b.e) (by omega); omega
  · have := sv_nlen (a := b) (E := min a.e b.e) (by omega); omega
  · have := sv_nlen (a := c) (E := c.e) (Int.le_refl _); omega
theorem dyadTurns_law (na : Bool) (la : List Int) (ea : Int) (nb : Bool) (lb : List Int) (eb : Int) (nc : Bool) (lc : List Int) (ec : Int) (hwa : ∀ y ∈ la, (Lit.int .u32 y).wf = true) (hya : la.length * 4 ≤ 140737488351232) (hea : (Lit.int .i64 ea).wf = true) (hwb : ∀ y ∈ lb, (Lit.int .u32 y).wf = true) (hyb : lb.length * 4 ≤ 140737488351232) (heb : (Lit.int .i64 eb).wf = true) (hwc : ∀ y ∈ lc, (Lit.int .u32 y).wf = true) (hyc : lc.length * 4 ≤ 140737488351232) (hec : (Lit.int .i64 ec).wf = true) :
    Snd Try.prog 5 [.g (dL na la ea), .g (dL nb lb eb), .g (dL nc lc ec)] (.a (.b true)) := by
  have ha := ok_of_wf hwa
  have hb := ok_of_wf hwb
  have hc := ok_of_wf hwc
  refine snd_of ttOk mixed Try.func5 Try.ntmps5 rfl (by kernel_rfl) rfl ?_
  by_cases ha1 : (la.length : Int) > 20
  · have za1 := decide_eq_true ha1
    repeat (conv => whnf); first | refine ⟨_, awake2_snd, ?_⟩ | refine ⟨9, ?_⟩ | refine br_t za1 ?_ | refine br_tt ?_ | refine br_ff ?_ | refine And.intro (by decide) ?_ | refine And.intro (by kernel_rfl) ?_
    rfl
  have za1 := decide_eq_false ha1
  by_cases ha2 : ea < -1000
  · have za2 := decide_eq_true ha2
    repeat (conv => whnf); first | refine ⟨_, awake2_snd, ?_⟩ | refine ⟨9, ?_⟩ | refine br_f za1 ?_ | refine br_t za2 ?_ | refine br_tt ?_ | refine br_ff ?_ | refine And.intro (by decide) ?_ | refine And.intro (by kernel_rfl) ?_
    rfl
  have za2 := decide_eq_false ha2
  by_cases ha3 : ea > 1000
  · have za3 := decide_eq_true ha3
    repeat (conv => whnf); first | refine ⟨_, awake2_snd, ?_⟩ | refine ⟨9, ?_⟩ | refine br_f za1 ?_ | refine br_f za2 ?_ | refine br_t za3 ?_ | refine br_tt ?_ | refine br_ff ?_ | refine And.intro (by decide) ?_ | refine And.intro (by kernel_rfl) ?_
    rfl
  have za3 := decide_eq_false ha3
  by_cases hb1 : (lb.length : Int) > 20
  · have zb1 := decide_eq_true hb1
    repeat (conv => whnf); first | refine ⟨_, awake2_snd, ?_⟩ | refine ⟨9, ?_⟩ | refine br_f za1 ?_ | refine br_f za2 ?_ | refine br_f za3 ?_ | refine br_t zb1 ?_ | refine br_tt ?_ | refine br_ff ?_ | refine And.intro (by decide) ?_ | refine And.intro (by kernel_rfl) ?_
    rfl
  have zb1 := decide_eq_false hb1
  by_cases hb2 : eb < -1000
  · have zb2 := decide_eq_true hb2
    repeat (conv => whnf); first | refine ⟨_, awake2_snd, ?_⟩ | refine ⟨9, ?_⟩ | refine br_f za1 ?_ | refine br_f za2 ?_ | refine br_f za3 ?_ | refine br_f zb1 ?_ | refine br_t zb2 ?_ | refine br_tt ?_ | refine br_ff ?_ | refine And.intro (by decide) ?_ | refine And.intro (by kernel_rfl) ?_
    rfl
  have zb2 := decide_eq_false hb2
  by_cases hb3 : eb > 1000
  · have zb3 := decide_eq_true hb3
    repeat (conv => whnf); first | refine ⟨_, awake2_snd, ?_⟩ | refine ⟨9, ?_⟩ | refine br_f za1 ?_ | refine br_f za2 ?_ | refine br_f za3 ?_ | refine br_f zb1 ?_ | refine br_f zb2 ?_ | refine br_t zb3 ?_ | refine br_tt ?_ | refine br_ff ?_ | refine And.intro (by decide) ?_ | refine And.intro (by kernel_rfl) ?_
    rfl
  have zb3 := decide_eq_false hb3
  by_cases hc1 : (lc.length : Int) > 20
  · have zc1 := decide_eq_true hc1
    repeat (conv => whnf); first | refine ⟨_, awake2_snd, ?_⟩ | refine ⟨9, ?_⟩ | refine br_f za1 ?_ | refine br_f za2 ?_ | refine br_f za3 ?_ | refine br_f zb1 ?_ | refine br_f zb2 ?_ | refine br_f zb3 ?_ | refine br_t zc1 ?_ | refine br_tt ?_ | refine br_ff ?_ | refine And.intro (by decide) ?_ | refine And.intro (by kernel_rfl) ?_
    rfl
  have zc1 := decide_eq_false hc1
  by_cases hc2 : ec < -1000
  · have zc2 := decide_eq_true hc2
    repeat (conv => whnf); first | refine ⟨_, awake2_snd, ?_⟩ | refine ⟨9, ?_⟩ | refine br_f za1 ?_ | refine br_f za2 ?_ | refine br_f za3 ?_ | refine br_f zb1 ?_ | refine br_f zb2 ?_ | refine br_f zb3 ?_ | refine br_f zc1 ?_ | refine br_t zc2 ?_ | refine br_tt ?_ | refine br_ff ?_ | refine And.intro (by decide) ?_ | refine And.intro (by kernel_rfl) ?_
    rfl
  have zc2 := decide_eq_false hc2
  by_cases hc3 : ec > 1000
  · have zc3 := decide_eq_true hc3
    repeat (conv => whnf); first | refine ⟨_, awake2_snd, ?_⟩ | refine ⟨9, ?_⟩ | refine br_f za1 ?_ | refine br_f za2 ?_ | refine br_f za3 ?_ | refine br_f zb1 ?_ | refine br_f zb2 ?_ | refine br_f zb3 ?_ | refine br_f zc1 ?_ | refine br_f zc2 ?_ | refine br_t zc3 ?_ | refine br_tt ?_ | refine br_ff ?_ | refine And.intro (by decide) ?_ | refine And.intro (by kernel_rfl) ?_
    rfl
  have zc3 := decide_eq_false hc3
  obtain ⟨xa, va, ba, ma⟩ := val_of (neg := na) (l := la) (e := ea) ha (by omega) (by omega) (by omega)
  have ka : la.length ≤ 1000 := by omega
  obtain ⟨xb, vb, bb, mb⟩ := val_of (neg := nb) (l := lb) (e := eb) hb (by omega) (by omega) (by omega)
  have kb : lb.length ≤ 1000 := by omega
  obtain ⟨xc, vc, bc, mc⟩ := val_of (neg := nc) (l := lc) (e := ec) hc (by omega) (by omega) (by omega)
  have kc : lc.length ≤ 1000 := by omega
  have i1 := nlen_addI xa xb
  have i1' := nlen_addI xb xa
  have i4 := nlen_negI xb
  obtain ⟨s, es, vs, ms, ps, ns⟩ := add_va ma mb va vb (by omega) (by omega) (by omega)
  obtain ⟨t, et, vt, mt, pt, nt⟩ := add_va mb ma vb va (by omega) (by omega) (by omega)
  have i2 := nlen_addI (xa + xb) (-xb)
  obtain ⟨d, ed, vd, md, pd, nd⟩ := add_va ms (show (turned ⟨nb, nv lb, eb⟩).may = true from mb) vs vb.turned (by omega) (by omega) (by omega)
  obtain ⟨xa', xb', xc', E', q1, q2, q3, q4, q5, q6, q7⟩ := scale_of (a := ⟨na, nv la, ea⟩) (b := ⟨nb, nv lb, eb⟩) (c := ⟨nc, nv lc, ec⟩) (by have := nlen_nv ha; dsimp only; omega) (by have := nlen_nv hb; dsimp only; omega) (by have := nlen_nv hc; dsimp only; omega) (by dsimp only; omega) (by dsimp only; omega) (by dsimp only; omega)
  dsimp only at q3 q7
  obtain ⟨s', es', vs', _, _, _⟩ := add_va ma mb q1 q2 (by have := nlen_addI xa' xb'; omega) (by omega) (by have := nlen_addI xa' xb'; omega)
  have ess : s' = s := by have := es'.symm.trans es; exact (Prod.mk.inj this).1
  subst ess
  have j1 := nlen_addI xa' xb'
  have j2 := nlen_mulI (xa' + xb') xc'
  have j3 := nlen_mulI xa' xc'
  have j4 := nlen_mulI xb' xc'
  have j5 := nlen_mulI xc' xa'
  obtain ⟨p, ep, vp, mp, pp, np⟩ := mul_va ms mc vs' q3 (by omega) (by omega) (by omega)
  obtain ⟨q, eq, vq, mq, pq, nq⟩ := mul_va ma mc q1 q3 (by omega) (by omega) (by omega)
  obtain ⟨r, er, vr, mr, pr, nr⟩ := mul_va mb mc q2 q3 (by omega) (by omega) (by omega)
  obtain ⟨v, ev_, vv, mv, pv, nv_⟩ := mul_va mc ma q3 q1 (by omega) (by omega) (by omega)
  have j6 := nlen_addI (xa' * xc') (xb' * xc')
  obtain ⟨u, eu, vu, mu, pu, nu⟩ := add_va mq mr vq vr (by omega) (by omega) (by omega)
  have fs : Few s'.n := by show nlen _ ≤ 31000; omega
  have ft : Few t.n := by show nlen _ ≤ 31000; omega
  have fd : Few d.n := by show nlen _ ≤ 31000; omega
  have fp : Few p.n := by show nlen _ ≤ 31000; omega
  have fq : Few q.n := by show nlen _ ≤ 31000; omega
  have fr : Few r.n := by show nlen _ ≤ 31000; omega
  have fv : Few v.n := by show nlen _ ≤ 31000; omega
  have fu : Few u.n := by show nlen _ ≤ 31000; omega
  have c1 := dadd_snd (na := na) (nb := nb) (ea := ea) (eb := eb) ha hb ka kb
  rw [es] at c1
  have c2 := dadd_snd (na := nb) (nb := na) (ea := eb) (eb := ea) hb ha kb ka
  rw [et] at c2
  have c3 := dsub_snd (na := s'.neg) (nb := nb) (ea := s'.e) (eb := eb) (few_ok fs).1 hb (few_ok fs).2 kb
  rw [nv_parts] at c3
  change Snd _ _ _ (rA (Dy.add s' (turned ⟨nb, nv lb, eb⟩))) at c3
  rw [ed] at c3
  have c4 := dmul_snd (na := s'.neg) (nb := nc) (ea := s'.e) (eb := ec) (few_ok fs).1 hc (few_ok fs).2 kc
  rw [nv_parts] at c4
  change Snd _ _ _ (rA (Dy.mul s' ⟨nc, nv lc, ec⟩)) at c4
  rw [ep] at c4
  have c5 := dmul_snd (na := na) (nb := nc) (ea := ea) (eb := ec) ha hc ka kc
  rw [eq] at c5
  have c6 := dmul_snd (na := nb) (nb := nc) (ea := eb) (eb := ec) hb hc kb kc
  rw [er] at c6
  have c7 := dadd_snd2 fq fr
  rw [eu] at c7
  have c8 := dmul_snd (na := nc) (nb := na) (ea := ec) (eb := ea) hc ha kc ka
  rw [ev_] at c8
  have s1 := dsame_snd' fs ft
  rw [same_va ms mt vs (by rw [Int.add_comm]; exact vt)] at s1
  have s2 := dsame_snd (na := d.neg) (nb := na) (ea := d.e) (eb := ea) (few_ok fd).1 ha (few_ok fd).2 ka
  rw [nv_parts] at s2
  change Snd _ _ _ (.a (.b (Dy.same d ⟨na, nv la, ea⟩))) at s2
  rw [same_va md ma vd (by rw [show xa + xb + -xb = xa by omega]; exact va)] at s2
  have s3 := dsame_snd' fp fu
  rw [same_va mp mu vp (by rw [Int.add_mul]; exact vu)] at s3
  have s4 := dsame_snd' fq fv
  rw [same_va mq mv vq (by rw [Int.mul_comm, Int.add_comm]; exact vv)] at s4
  repeat (conv => whnf); first | refine ⟨_, awake2_snd, ?_⟩ | refine ⟨9, ?_⟩ | refine ⟨9, ?_⟩ | refine ⟨_, c1, ?_⟩ | refine ⟨_, c2, ?_⟩ | refine ⟨_, c3, ?_⟩ | refine ⟨_, c4, ?_⟩ | refine ⟨_, c5, ?_⟩ | refine ⟨_, c6, ?_⟩ | refine ⟨_, c7, ?_⟩ | refine ⟨_, c8, ?_⟩ | refine ⟨_, s1, ?_⟩ | refine ⟨_, s2, ?_⟩ | refine ⟨_, s3, ?_⟩ | refine ⟨_, s4, ?_⟩ | refine br_f za1 ?_ | refine br_f za2 ?_ | refine br_f za3 ?_ | refine br_f zb1 ?_ | refine br_f zb2 ?_ | refine br_f zb3 ?_ | refine br_f zc1 ?_ | refine br_f zc2 ?_ | refine br_f zc3 ?_ | refine br_tt ?_ | refine br_ff ?_ | refine And.intro (by decide) ?_ | refine And.intro (by kernel_rfl) ?_
  rfl
end Go.Proofs.Ytolcejcdehfdcaa.A
