/- The law DyadFloors answers true, at every input of its types. -/
import Derived.Test.YtolcejcdehfdcaaS6
set_option linter.unusedVariables false
set_option linter.unusedSimpArgs false
set_option linter.constructorNameAsVariable false
set_option maxRecDepth 100000
set_option maxHeartbeats 4000000
namespace Go.Proofs.Ytolcejcdehfdcaa.A
open Go.RowKit Go.Proofs.Ytolcejcdehfdcaa.P Go.Proofs.YtolcejcdehfdcaaW.PrintWords Go.Proofs.YtolcejcdehfdcaaW.PrintMore Go.Proofs.Ytolcejcdehfdcaa.N Sk Dy
theorem dfloor_snd' {d : Dy} (h : Few d.n) (t0 : Int) : Snd Try.prog 24 [.g (dA d), .a (iA t0)] (fA (Dy.floor d t0)) := by
  have := dfloor_snd (na := d.neg) (ea := d.e) (few_ok h).1 (few_ok h).2 t0
  rwa [nv_parts] at this
theorem dsame_snd' {a b : Dy} (ha : Few a.n) (hb : Few b.n) : Snd Try.prog 18 [.g (dA a), .g (dA b)] (.a (.b (Dy.same a b))) := by
  have := dsame_snd (na := a.neg) (nb := b.neg) (ea := a.e) (eb := b.e) (few_ok ha).1 (few_ok hb).1 (few_ok ha).2 (few_ok hb).2
  rwa [nv_parts, nv_parts] at this
theorem dtop_snd' {d : Dy} (h : Few d.n) : Snd Try.prog 22 [.g (dA d)] (cA (Dy.top d)) := by
  have := dtop_snd (na := d.neg) (ea := d.e) (few_ok h).1 (few_ok h).2
  rwa [nv_parts] at this
theorem beq_plen {n : Nat} : (((parts n).length : Int) == 0) = decide (n = 0) := by
  by_cases h : n = 0
  · subst h; rw [parts_zero]; rfl
  · rw [decide_eq_false h, beq_eq_false_iff_ne]
    intro e
    have : (parts n) = [] := List.length_eq_zero_iff.1 (by omega)
    exact h (by rw [← nv_parts n, this]; rfl)
theorem dyadFloors_law (na : Bool) (la : List Int) (ea x : Int) (hw : ∀ y ∈ la, (Lit.int .u32 y).wf = true) (hy : la.length * 4 ≤ 140737488351232) (he : (Lit.int .i64 ea).wf = true) (hx : (Lit.int .i16 x).wf = true) :
    Snd Try.prog 7 [.g (dL na la ea), .a (.i .i16 x)] (.a (.b true)) := by
  have ha := ok_of_wf hw
  have hx := wf_i16 hx
  have ht : -1500 < Int.tmod x 1500 ∧ Int.tmod x 1500 < 1500 := ⟨Int.lt_tmod_of_pos _ (by omega), Int.tmod_lt_of_pos _ (by omega)⟩
  have et : Int.tmod (IntKind.wrap .i64 x) 1500 = Int.tmod x 1500 := by rw [wI (by omega) (by omega)]
  rw [← et] at ht
  generalize Int.tmod x 1500 = t0 at *
  refine snd_of ttOk mixed Try.func7 Try.ntmps7 rfl (by kernel_rfl) rfl ?_
  by_cases h1 : (la.length : Int) > 20
  · have z1 := decide_eq_true h1
    repeat (conv => whnf); first | refine ⟨_, awake2_snd, ?_⟩ | refine br_t z1 ?_ | refine br_tt ?_ | refine br_ff ?_ | refine And.intro (by decide) ?_ | refine And.intro (by kernel_rfl) ?_
    rfl
  have z1 := decide_eq_false h1
  by_cases h2 : ea < -1000
  · have z2 := decide_eq_true h2
    repeat (conv => whnf); first | refine ⟨_, awake2_snd, ?_⟩ | refine br_f z1 ?_ | refine br_t z2 ?_ | refine br_tt ?_ | refine br_ff ?_ | refine And.intro (by decide) ?_ | refine And.intro (by kernel_rfl) ?_
    rfl
  have z2 := decide_eq_false h2
  by_cases h3 : ea > 1000
  · have z3 := decide_eq_true h3
    repeat (conv => whnf); first | refine ⟨_, awake2_snd, ?_⟩ | refine br_f z1 ?_ | refine br_f z2 ?_ | refine br_t z3 ?_ | refine br_tt ?_ | refine br_ff ?_ | refine And.intro (by decide) ?_ | refine And.intro (by kernel_rfl) ?_
    rfl
  have z3 := decide_eq_false h3
  have hl := nlen_nv ha
  have hla : la.length ≤ 1000 := by omega
  obtain ⟨l, d, lost, f1, f2, f3, f4, f5, f6, f7, f8, f9, f10⟩ := floor_facts (a := ⟨na, nv la, ea⟩) (t0 := Int.tmod (IntKind.wrap .i64 x) 1500) (by dsimp only; omega) (by dsimp only; omega) ht
  have fl : Few l.n := by show nlen _ ≤ 31000; omega
  have fd : Few d.n := by show nlen _ ≤ 31000; omega
  have v1 := dfloor_snd (na := na) (ea := ea) ha hla (Int.tmod (IntKind.wrap .i64 x) 1500)
  rw [f1] at v1
  have v2 := dsub_snd (na := na) (nb := l.neg) (ea := ea) (eb := l.e) ha (few_ok fl).1 hla (few_ok fl).2
  rw [nv_parts] at v2
  change Snd _ _ _ (rA (Dy.add ⟨na, nv la, ea⟩ (turned l))) at v2
  rw [f2] at v2
  have v3 := dfloor_snd' fl (Int.tmod (IntKind.wrap .i64 x) 1500)
  rw [f3] at v3
  have v4 := dsame_snd' fl fl
  rw [f4] at v4
  have v5 := dsame_snd (na := na) (nb := l.neg) (ea := ea) (eb := l.e) ha (few_ok fl).1 hla (few_ok fl).2
  rw [nv_parts] at v5
  change Snd _ _ _ (.a (.b (Dy.same ⟨na, nv la, ea⟩ l))) at v5
  rw [f5] at v5
  have zd := beq_plen (n := d.n)
  have zl := beq_plen (n := l.n)
  by_cases hd : d.n = 0
  · rw [decide_eq_true hd] at zd
    rw [f9 hd] at v1 v5
    repeat (conv => whnf); first | refine ⟨_, awake2_snd, ?_⟩ | refine ⟨_, v1, ?_⟩ | refine ⟨_, v2, ?_⟩ | refine ⟨_, v3, ?_⟩ | refine ⟨_, v4, ?_⟩ | refine ⟨_, v5, ?_⟩ | refine br_f z1 ?_ | refine br_f z2 ?_ | refine br_f z3 ?_ | refine br_t zd ?_ | refine br_tt ?_ | refine br_ff ?_ | refine And.intro (by decide) ?_ | refine And.intro (by kernel_rfl) ?_
    rfl
  rw [decide_eq_false hd] at zd
  obtain ⟨g1, g2, g3, g4⟩ := f10 hd
  have e6 : Dy.top d = (d.e + nlen d.n - 1, 0) := (if_pos g1).trans (if_neg hd)
  have v6 := dtop_snd' fd
  rw [e6] at v6
  dsimp only at g3 g4
  have z4 : decide (d.e + nlen d.n - 1 < Int.tmod (IntKind.wrap .i64 x) 1500) = true := decide_eq_true g2
  have z5 : (d.neg == na) = true := by rw [g3]; simp
  by_cases hl0 : l.n = 0
  · rw [decide_eq_true hl0] at zl
    cases lost
    all_goals
      repeat (conv => whnf); first | refine ⟨_, awake2_snd, ?_⟩ | refine ⟨_, v1, ?_⟩ | refine ⟨_, v2, ?_⟩ | refine ⟨_, v3, ?_⟩ | refine ⟨_, v4, ?_⟩ | refine ⟨_, v5, ?_⟩ | refine ⟨_, v6, ?_⟩ | refine br_f z1 ?_ | refine br_f z2 ?_ | refine br_f z3 ?_ | refine br_f zd ?_ | refine br_t zl ?_ | refine br_t z4 ?_ | refine br_t z5 ?_ | refine br_tt ?_ | refine br_ff ?_ | refine And.intro (by decide) ?_ | refine And.intro (by kernel_rfl) ?_
      rfl
  · rw [decide_eq_false hl0] at zl
    obtain ⟨k1, k2⟩ := g4 hl0
    have z6 : (l.neg == na) = true := by rw [k1]; simp
    have z7 : decide (l.e ≥ Int.tmod (IntKind.wrap .i64 x) 1500) = true := decide_eq_true k2
    cases lost
    all_goals
      repeat (conv => whnf); first | refine ⟨_, awake2_snd, ?_⟩ | refine ⟨_, v1, ?_⟩ | refine ⟨_, v2, ?_⟩ | refine ⟨_, v3, ?_⟩ | refine ⟨_, v4, ?_⟩ | refine ⟨_, v5, ?_⟩ | refine ⟨_, v6, ?_⟩ | refine br_f z1 ?_ | refine br_f z2 ?_ | refine br_f z3 ?_ | refine br_f zd ?_ | refine br_f zl ?_ | refine br_t z4 ?_ | refine br_t z5 ?_ | refine br_t z6 ?_ | refine br_t z7 ?_ | refine br_tt ?_ | refine br_ff ?_ | refine And.intro (by decide) ?_ | refine And.intro (by kernel_rfl) ?_
      show AV.a (.b (decide (l.e ≥ Int.tmod (IntKind.wrap .i64 x) 1500))) = _
      rw [z7]
end Go.Proofs.Ytolcejcdehfdcaa.A
