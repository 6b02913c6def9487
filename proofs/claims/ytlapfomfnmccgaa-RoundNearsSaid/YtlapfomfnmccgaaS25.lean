import Derived.Test.YtlapfomfnmccgaaS24
import Derived.Test.YtlapfomfnmccgaaN48
set_option linter.unusedVariables false
set_option linter.unusedSimpArgs false
set_option linter.constructorNameAsVariable false
set_option linter.unusedSectionVars false
set_option maxRecDepth 100000
set_option maxHeartbeats 8000000
namespace Go.Proofs.Ytlapfomfnmccgaa.A
open Go.RowKit Go.Proofs.Ytlapfomfnmccgaa.P Go.Proofs.YtlapfomfnmccgaaW.PrintWords Go.Proofs.YtlapfomfnmccgaaW.PrintMore Go.Proofs.Ytlapfomfnmccgaa.N Sk Dy
theorem few_wv {f : Fm} (h : f.ok) (b : Nat) : Few (f.wv b).n := by have := (Fm.wv_may h b).2; show nlen _ ≤ 31000; omega
theorem sI_pair {x y u v : Int} (h1 : x ≤ y → u ≤ v) (h2 : y ≤ x → v ≤ u) : (sI (x - y) = -1 ∧ (sI (u - v) = -1 ∨ sI (u - v) = 0)) ∨ (sI (x - y) = 0 ∧ sI (u - v) = 0) ∨ (sI (x - y) = 1 ∧ (sI (u - v) = 0 ∨ sI (u - v) = 1)) := by
  unfold sI
  by_cases e1 : x - y < 0
  · rw [if_pos e1]
    have := h1 (by omega)
    left
    refine ⟨rfl, ?_⟩
    by_cases e2 : u - v < 0
    · rw [if_pos e2]; exact .inl rfl
    · rw [if_neg e2, if_pos (by omega)]; exact .inr rfl
  · rw [if_neg e1]
    by_cases e3 : x - y = 0
    · rw [if_pos e3]
      have := h1 (by omega)
      have := h2 (by omega)
      right; left
      exact ⟨rfl, by rw [if_neg (by omega), if_pos (by omega)]⟩
    · rw [if_neg e3]
      have := h2 (by omega)
      right; right
      refine ⟨rfl, ?_⟩
      rw [if_neg (by omega)]
      by_cases e2 : u - v = 0
      · rw [if_pos e2]; exact .inl rfl
      · rw [if_neg e2]; exact .inr rfl
theorem sI_le {z : Int} : (sI z ≤ 0 ↔ z ≤ 0) ∧ (sI z ≥ 0 ↔ z ≥ 0) ∧ (sI z < 0 ↔ z < 0) := by unfold sI; split <;> (try split) <;> omega
section
variable {f : Fm} (h : f.ok)
include h
theorem lvalue_snd {b : Nat} (hb : b < 2 ^ (f.p + f.w)) (hc : f.cl b ≤ 3) : Snd Try.prog 24 [.g (fmA f), .a (uA b)] (.g (dA (f.wv b))) := by
  have hb64 := Fm.lt64 h hb
  have c1 := fcl_snd h hb64
  have c2 := fneg_snd h hb64
  have c3 := of_snd (n := 1) (by omega) (by omega)
  have c4 := fval_snd h hb64
  have z := beqN (f.cl b) 3
  refine snd_of ttOk mixed Try.func24 Try.ntmps24 rfl (by kernel_rfl) rfl ?_
  unfold Fm.wv
  by_cases h3 : f.cl b = 3
  · rw [if_pos h3]
    rw [decide_eq_true h3] at z
    repeat (conv => whnf); first | refine br_tt ?_ | refine br_ff ?_ | refine ⟨_, c1, ?_⟩ | refine ⟨_, c2, ?_⟩ | refine ⟨_, c3, ?_⟩ | refine br_t z ?_ | refine And.intro (by kernel_rfl) ?_ | refine And.intro (by decide) ?_
    rfl
  · rw [if_neg h3]
    rw [decide_eq_false h3] at z
    repeat (conv => whnf); first | refine br_tt ?_ | refine br_ff ?_ | refine ⟨_, c1, ?_⟩ | refine ⟨_, c4, ?_⟩ | refine br_f z ?_ | refine And.intro (by kernel_rfl) ?_ | refine And.intro (by decide) ?_
    rfl
/-- A number of the laws' sizes. -/
theorem law_num {ng : Bool} {l : List Int} {e : Int} (ho : Ok l) (hl : l.length ≤ 40) (h1 : -1200 ≤ e) (h2 : e ≤ 1100) :
    rmay ⟨ng, nv l, e⟩ = true ∧ (⟨ng, nv l, e⟩ : Dy).may = true ∧ nlen ((⟨ng, nv l, e⟩ : Dy).sv (-1200)).natAbs ≤ 3580 := by
  have hn := few_nv ho hl
  refine ⟨rmay_of (by dsimp only; omega) (by dsimp only; omega) (by dsimp only; omega), may_of (k := 1280) (by dsimp only; omega) (by omega) (by dsimp only; omega) (by dsimp only; omega), ?_⟩
  have := sv_nlen (a := ⟨ng, nv l, e⟩) (E := -1200) h1
  dsimp only at this; omega
end
theorem dcmp_snd3 {a : Dy} {nb : Bool} {lb : List Int} {eb : Int} (ha : Few a.n) (hb : Ok lb) (hlb : lb.length ≤ 1000) : Snd Try.prog 23 [.g (dA a), .g (dL nb lb eb)] (cA (Dy.cmp a ⟨nb, nv lb, eb⟩)) := by
  have := dcmp_snd (na := a.neg) (nb := nb) (ea := a.e) (eb := eb) (few_ok ha).1 hb (few_ok ha).2 hlb
  rwa [nv_parts] at this
theorem roundRises_law (bits mode : Int) (na : Bool) (la : List Int) (ea : Int) (nb : Bool) (lb : List Int) (eb : Int) (hbits : (Lit.int .i64 bits).wf = true) (hmode : (Lit.int .i64 mode).wf = true) (hwa : ∀ y ∈ la, (Lit.int .u32 y).wf = true) (hya : la.length * 4 ≤ 140737488351232) (hea : (Lit.int .i64 ea).wf = true) (hwb : ∀ y ∈ lb, (Lit.int .u32 y).wf = true) (hyb : lb.length * 4 ≤ 140737488351232) (heb : (Lit.int .i64 eb).wf = true) :
    Snd Try.prog 6 [.a (iA bits), .a (iA mode), .g (dL na la ea), .g (dL nb lb eb)] (.a (.b true)) := by
  have ha := ok_of_wf hwa
  have hb := ok_of_wf hwb
  have o1 := fof_snd bits
  refine snd_of ttOk mixed Try.func6 Try.ntmps6 rfl (by kernel_rfl) rfl ?_
  cases hf : fmOf bits with
  | none =>
    rw [hf] at o1
    repeat (conv => whnf); first | refine br_tt ?_ | refine br_ff ?_ | refine ⟨_, awake4_snd, ?_⟩ | refine ⟨_, o1, ?_⟩ | refine And.intro (by kernel_rfl) ?_ | refine And.intro (by decide) ?_
    rfl
  | some f =>
  rw [hf] at o1
  obtain ⟨h, hbt⟩ := fmOf_ok hf
  have hB := Fm.bounds h
  by_cases m1 : mode < 0
  · have z1 := decide_eq_true m1
    repeat (conv => whnf); first | refine br_tt ?_ | refine br_ff ?_ | refine ⟨_, awake4_snd, ?_⟩ | refine ⟨_, o1, ?_⟩ | refine br_t z1 ?_ | refine And.intro (by kernel_rfl) ?_ | refine And.intro (by decide) ?_
    rfl
  have z1 := decide_eq_false m1
  by_cases m2 : mode ≥ 5
  · have z2 := decide_eq_true m2
    repeat (conv => whnf); first | refine br_tt ?_ | refine br_ff ?_ | refine ⟨_, awake4_snd, ?_⟩ | refine ⟨_, o1, ?_⟩ | refine br_f z1 ?_ | refine br_t z2 ?_ | refine And.intro (by kernel_rfl) ?_ | refine And.intro (by decide) ?_
    rfl
  have z2 := decide_eq_false m2
  by_cases a3 : (la.length : Int) > 40
  · have y3 := decide_eq_true a3
    repeat (conv => whnf); first | refine ⟨3, ?_⟩ | refine br_tt ?_ | refine br_ff ?_ | refine ⟨_, awake4_snd, ?_⟩ | refine ⟨_, o1, ?_⟩ | refine br_f z1 ?_ | refine br_f z2 ?_ | refine br_t y3 ?_ | refine And.intro (by kernel_rfl) ?_ | refine And.intro (by decide) ?_
    rfl
  have y3 := decide_eq_false a3
  by_cases a4 : ea < -1200
  · have y4 := decide_eq_true a4
    repeat (conv => whnf); first | refine ⟨3, ?_⟩ | refine br_tt ?_ | refine br_ff ?_ | refine ⟨_, awake4_snd, ?_⟩ | refine ⟨_, o1, ?_⟩ | refine br_f z1 ?_ | refine br_f z2 ?_ | refine br_f y3 ?_ | refine br_t y4 ?_ | refine And.intro (by kernel_rfl) ?_ | refine And.intro (by decide) ?_
    rfl
  have y4 := decide_eq_false a4
  by_cases a5 : ea > 1100
  · have y5 := decide_eq_true a5
    repeat (conv => whnf); first | refine ⟨3, ?_⟩ | refine br_tt ?_ | refine br_ff ?_ | refine ⟨_, awake4_snd, ?_⟩ | refine ⟨_, o1, ?_⟩ | refine br_f z1 ?_ | refine br_f z2 ?_ | refine br_f y3 ?_ | refine br_f y4 ?_ | refine br_t y5 ?_ | refine And.intro (by kernel_rfl) ?_ | refine And.intro (by decide) ?_
    rfl
  have y5 := decide_eq_false a5
  by_cases b3 : (lb.length : Int) > 40
  · have x3 := decide_eq_true b3
    repeat (conv => whnf); first | refine ⟨3, ?_⟩ | refine br_tt ?_ | refine br_ff ?_ | refine ⟨_, awake4_snd, ?_⟩ | refine ⟨_, o1, ?_⟩ | refine br_f z1 ?_ | refine br_f z2 ?_ | refine br_f y3 ?_ | refine br_f y4 ?_ | refine br_f y5 ?_ | refine br_t x3 ?_ | refine And.intro (by kernel_rfl) ?_ | refine And.intro (by decide) ?_
    rfl
  have x3 := decide_eq_false b3
  by_cases b4 : eb < -1200
  · have x4 := decide_eq_true b4
    repeat (conv => whnf); first | refine ⟨3, ?_⟩ | refine br_tt ?_ | refine br_ff ?_ | refine ⟨_, awake4_snd, ?_⟩ | refine ⟨_, o1, ?_⟩ | refine br_f z1 ?_ | refine br_f z2 ?_ | refine br_f y3 ?_ | refine br_f y4 ?_ | refine br_f y5 ?_ | refine br_f x3 ?_ | refine br_t x4 ?_ | refine And.intro (by kernel_rfl) ?_ | refine And.intro (by decide) ?_
    rfl
  have x4 := decide_eq_false b4
  by_cases b5 : eb > 1100
  · have x5 := decide_eq_true b5
    repeat (conv => whnf); first | refine ⟨3, ?_⟩ | refine br_tt ?_ | refine br_ff ?_ | refine ⟨_, awake4_snd, ?_⟩ | refine ⟨_, o1, ?_⟩ | refine br_f z1 ?_ | refine br_f z2 ?_ | refine br_f y3 ?_ | refine br_f y4 ?_ | refine br_f y5 ?_ | refine br_f x3 ?_ | refine br_f x4 ?_ | refine br_t x5 ?_ | refine And.intro (by kernel_rfl) ?_ | refine And.intro (by decide) ?_
    rfl
  have x5 := decide_eq_false b5
  obtain ⟨ra, ma, na3⟩ := law_num h (ng := na) ha (by omega) (show -1200 ≤ ea by omega) (by omega)
  obtain ⟨rb, mb, nb3⟩ := law_num h (ng := nb) hb (by omega) (show -1200 ≤ eb by omega) (by omega)
  obtain ⟨s, hs⟩ : ∃ s, s = (f.low - -1200).toNat := ⟨_, rfl⟩
  obtain ⟨c, fc, ec, c1, c2, vc, fitc, _⟩ := Fm.told_sr h (mode := mode) (by omega) ra false (E := -1200) (show -1200 ≤ ea by omega) (by omega) hs
  obtain ⟨d, fd, ed, d1, d2, vd, fitd, _⟩ := Fm.told_sr h (mode := mode) (by omega) rb false (E := -1200) (show -1200 ≤ eb by omega) (by omega) hs
  have k1 := to_snd h (mode := mode) (ng := na) (e := ea) ha (by omega) false
  rw [ec] at k1
  have k2 := to_snd h (mode := mode) (ng := nb) (e := eb) hb (by omega) false
  rw [ed] at k2
  have va := va_of (a := ⟨na, nv la, ea⟩) (E := -1200) (show -1200 ≤ ea by omega)
  have vb := va_of (a := ⟨nb, nv lb, eb⟩) (E := -1200) (show -1200 ≤ eb by omega)
  have k3 := dcmp_snd (na := na) (nb := nb) (ea := ea) (eb := eb) ha hb (by omega) (by omega)
  rw [cmp_va ma mb va vb] at k3
  have k4 := lvalue_snd h c1 c2
  have k5 := lvalue_snd h d1 d2
  have k6 := dcmp_snd2 (few_wv h c) (few_wv h d)
  rw [cmp_va (Fm.wv_may h c).1 (Fm.wv_may h d).1 vc vd] at k6
  have k7 := dcmp_snd3 (nb := na) (eb := ea) (few_wv h c) ha (by omega)
  rw [cmp_va (Fm.wv_may h c).1 ma vc va] at k7
  have dir := Fm.sr_dir h (s := s) (X := (⟨na, nv la, ea⟩ : Dy).sv (-1200)) (by omega)
  have pr := sI_pair (fun hxy => Fm.sr_mono h fitc fitd hxy) (fun hxy => Fm.sr_mono h fitd fitc hxy)
  have sgn : (na = true → (⟨na, nv la, ea⟩ : Dy).sv (-1200) ≤ 0) ∧ (na = false → 0 ≤ (⟨na, nv la, ea⟩ : Dy).sv (-1200)) := by
    unfold Dy.sv; constructor <;> intro e <;> subst e <;> simp
  generalize (⟨na, nv la, ea⟩ : Dy).sv (-1200) = A at *
  generalize (⟨nb, nv lb, eb⟩ : Dy).sv (-1200) = B at *
  generalize hC : f.sr mode s A = C at *
  generalize f.sr mode s B = D at *
  have t1 := @sI_le (C - A)
  generalize sI (C - A) = z at *
  generalize sI (A - B) = x at *
  generalize sI (C - D) = y at *
  by_cases e1 : mode = 1
  · subst e1
    rw [hC] at dir
    cases na
    · have q1 : decide (z ≤ 0) = true := decide_eq_true (t1.1.2 (by have := sgn.2 rfl; have := dir.2.2.2 this; omega))
      rcases pr with ⟨rfl, rfl | rfl⟩ | ⟨rfl, rfl⟩ | ⟨rfl, rfl | rfl⟩
      all_goals
        repeat (conv => whnf); first | refine ⟨3, ?_⟩ | refine br_tt ?_ | refine br_ff ?_ | refine ⟨_, awake4_snd, ?_⟩ | refine ⟨_, o1, ?_⟩ | refine ⟨_, k1, ?_⟩ | refine ⟨_, k2, ?_⟩ | refine ⟨_, k3, ?_⟩ | refine ⟨_, k4, ?_⟩ | refine ⟨_, k5, ?_⟩ | refine ⟨_, k6, ?_⟩ | refine ⟨_, k7, ?_⟩ | refine br_f z1 ?_ | refine br_f z2 ?_ | refine br_f y3 ?_ | refine br_f y4 ?_ | refine br_f y5 ?_ | refine br_f x3 ?_ | refine br_f x4 ?_ | refine br_f x5 ?_ | refine br_t q1 ?_ | refine And.intro (by kernel_rfl) ?_ | refine And.intro (by decide) ?_
        show AV.a (.b (decide (z ≤ 0))) = _
        rw [q1]
    · have q1 : decide (z ≥ 0) = true := decide_eq_true (t1.2.1.2 (by
        by_cases e : A < 0
        · have := dir.2.2.1 e; omega
        · have := sgn.1 rfl
          have := dir.2.2.2 (by omega)
          have e0 : A = 0 := by omega
          rw [e0] at hC ⊢
          unfold Fm.sr at hC; rw [if_neg (by omega), show (0 : Int).natAbs = 0 from rfl, Fm.rz_zero] at hC; omega))
      rcases pr with ⟨rfl, rfl | rfl⟩ | ⟨rfl, rfl⟩ | ⟨rfl, rfl | rfl⟩
      all_goals
        repeat (conv => whnf); first | refine ⟨3, ?_⟩ | refine br_tt ?_ | refine br_ff ?_ | refine ⟨_, awake4_snd, ?_⟩ | refine ⟨_, o1, ?_⟩ | refine ⟨_, k1, ?_⟩ | refine ⟨_, k2, ?_⟩ | refine ⟨_, k3, ?_⟩ | refine ⟨_, k4, ?_⟩ | refine ⟨_, k5, ?_⟩ | refine ⟨_, k6, ?_⟩ | refine ⟨_, k7, ?_⟩ | refine br_f z1 ?_ | refine br_f z2 ?_ | refine br_f y3 ?_ | refine br_f y4 ?_ | refine br_f y5 ?_ | refine br_f x3 ?_ | refine br_f x4 ?_ | refine br_f x5 ?_ | refine br_t q1 ?_ | refine And.intro (by kernel_rfl) ?_ | refine And.intro (by decide) ?_
        rfl
  by_cases e2 : mode = 2
  · subst e2
    rw [hC] at dir
    have q1 : decide (z ≤ 0) = true := decide_eq_true (t1.1.2 (by omega))
    rcases pr with ⟨rfl, rfl | rfl⟩ | ⟨rfl, rfl⟩ | ⟨rfl, rfl | rfl⟩
    all_goals
      repeat (conv => whnf); first | refine ⟨3, ?_⟩ | refine br_tt ?_ | refine br_ff ?_ | refine ⟨_, awake4_snd, ?_⟩ | refine ⟨_, o1, ?_⟩ | refine ⟨_, k1, ?_⟩ | refine ⟨_, k2, ?_⟩ | refine ⟨_, k3, ?_⟩ | refine ⟨_, k4, ?_⟩ | refine ⟨_, k5, ?_⟩ | refine ⟨_, k6, ?_⟩ | refine ⟨_, k7, ?_⟩ | refine br_f z1 ?_ | refine br_f z2 ?_ | refine br_f y3 ?_ | refine br_f y4 ?_ | refine br_f y5 ?_ | refine br_f x3 ?_ | refine br_f x4 ?_ | refine br_f x5 ?_ | refine And.intro (by kernel_rfl) ?_ | refine And.intro (by decide) ?_
      show AV.a (.b (decide (z ≤ 0))) = _
      rw [q1]
  by_cases e3 : mode = 3
  · subst e3
    rw [hC] at dir
    have q1 : decide (z ≥ 0) = true := decide_eq_true (t1.2.1.2 (by omega))
    rcases pr with ⟨rfl, rfl | rfl⟩ | ⟨rfl, rfl⟩ | ⟨rfl, rfl | rfl⟩
    all_goals
      repeat (conv => whnf); first | refine ⟨3, ?_⟩ | refine br_tt ?_ | refine br_ff ?_ | refine ⟨_, awake4_snd, ?_⟩ | refine ⟨_, o1, ?_⟩ | refine ⟨_, k1, ?_⟩ | refine ⟨_, k2, ?_⟩ | refine ⟨_, k3, ?_⟩ | refine ⟨_, k4, ?_⟩ | refine ⟨_, k5, ?_⟩ | refine ⟨_, k6, ?_⟩ | refine ⟨_, k7, ?_⟩ | refine br_f z1 ?_ | refine br_f z2 ?_ | refine br_f y3 ?_ | refine br_f y4 ?_ | refine br_f y5 ?_ | refine br_f x3 ?_ | refine br_f x4 ?_ | refine br_f x5 ?_ | refine And.intro (by kernel_rfl) ?_ | refine And.intro (by decide) ?_
      show AV.a (.b (decide (z ≥ 0))) = _
      rw [q1]
  have w1 : (mode == 1) = false := by rw [beq_eq_false_iff_ne]; exact e1
  have w2 : (mode == 2) = false := by rw [beq_eq_false_iff_ne]; exact e2
  have w3 : (mode == 3) = false := by rw [beq_eq_false_iff_ne]; exact e3
  rcases pr with ⟨rfl, rfl | rfl⟩ | ⟨rfl, rfl⟩ | ⟨rfl, rfl | rfl⟩
  all_goals
    repeat (conv => whnf); first | refine ⟨3, ?_⟩ | refine br_tt ?_ | refine br_ff ?_ | refine ⟨_, awake4_snd, ?_⟩ | refine ⟨_, o1, ?_⟩ | refine ⟨_, k1, ?_⟩ | refine ⟨_, k2, ?_⟩ | refine ⟨_, k3, ?_⟩ | refine ⟨_, k4, ?_⟩ | refine ⟨_, k5, ?_⟩ | refine ⟨_, k6, ?_⟩ | refine ⟨_, k7, ?_⟩ | refine br_f z1 ?_ | refine br_f z2 ?_ | refine br_f y3 ?_ | refine br_f y4 ?_ | refine br_f y5 ?_ | refine br_f x3 ?_ | refine br_f x4 ?_ | refine br_f x5 ?_ | refine br_f w1 ?_ | refine br_f w2 ?_ | refine br_f w3 ?_ | refine And.intro (by kernel_rfl) ?_ | refine And.intro (by decide) ?_
    rfl
end Go.Proofs.Ytlapfomfnmccgaa.A
