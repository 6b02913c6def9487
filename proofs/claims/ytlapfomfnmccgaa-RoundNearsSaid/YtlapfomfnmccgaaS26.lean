import Derived.Test.YtlapfomfnmccgaaS25
set_option linter.unusedVariables false
set_option linter.unusedSimpArgs false
set_option linter.constructorNameAsVariable false
set_option linter.unusedSectionVars false
set_option maxRecDepth 100000
set_option maxHeartbeats 8000000
namespace Go.Proofs.Ytlapfomfnmccgaa.A
open Go.RowKit Go.Proofs.Ytlapfomfnmccgaa.P Go.Proofs.YtlapfomfnmccgaaW.PrintWords Go.Proofs.YtlapfomfnmccgaaW.PrintMore Go.Proofs.Ytlapfomfnmccgaa.N Sk Dy
theorem natone_snd : Snd Try.prog 28 [.a (.i .u64 1)] (.a (nA 1)) := of_snd (n := 1) (by omega) (by omega)
theorem dsub_snd3 {na : Bool} {la : List Int} {ea : Int} {b : Dy} (ha : Ok la) (hla : la.length ≤ 1000) (hb : Few b.n) : Snd Try.prog 26 [.g (dL na la ea), .g (dA b)] (rA (Dy.add ⟨na, nv la, ea⟩ (turned b))) := by
  have := dsub_snd (na := na) (nb := b.neg) (ea := ea) (eb := b.e) ha (few_ok hb).1 hla (few_ok hb).2
  rwa [nv_parts] at this
theorem roundHalf_law (bits mode : Int) (ng : Bool) (l : List Int) (e : Int) (hbits : (Lit.int .i64 bits).wf = true) (hmode : (Lit.int .i64 mode).wf = true) (hw : ∀ y ∈ l, (Lit.int .u32 y).wf = true) (hy : l.length * 4 ≤ 140737488351232) (he : (Lit.int .i64 e).wf = true) :
    Snd Try.prog 8 [.a (iA bits), .a (iA mode), .g (dL ng l e)] (.a (.b true)) := by
  have ho := ok_of_wf hw
  have o1 := fof_snd bits
  refine snd_of ttOk mixed Try.func8 Try.ntmps8 rfl (by kernel_rfl) rfl ?_
  cases hf : fmOf bits with
  | none =>
    rw [hf] at o1
    repeat (conv => whnf); first | refine br_tt ?_ | refine br_ff ?_ | refine ⟨_, awake4_snd, ?_⟩ | refine ⟨_, o1, ?_⟩ | refine And.intro (by kernel_rfl) ?_ | refine And.intro (by decide) ?_
    rfl
  | some f =>
  rw [hf] at o1
  obtain ⟨h, hbt⟩ := fmOf_ok hf
  have hB := Fm.bounds h
  by_cases m1 : mode < 0
  · have z1 := decide_eq_true m1
    repeat (conv => whnf); first | refine br_tt ?_ | refine br_ff ?_ | refine ⟨_, awake4_snd, ?_⟩ | refine ⟨_, o1, ?_⟩ | refine br_t z1 ?_ | refine And.intro (by kernel_rfl) ?_ | refine And.intro (by decide) ?_
    rfl
  have z1 := decide_eq_false m1
  by_cases m2 : mode ≥ 5
  · have z2 := decide_eq_true m2
    repeat (conv => whnf); first | refine br_tt ?_ | refine br_ff ?_ | refine ⟨_, awake4_snd, ?_⟩ | refine ⟨_, o1, ?_⟩ | refine br_f z1 ?_ | refine br_t z2 ?_ | refine And.intro (by kernel_rfl) ?_ | refine And.intro (by decide) ?_
    rfl
  have z2 := decide_eq_false m2
  by_cases m3 : (l.length : Int) > 40
  · have z3 := decide_eq_true m3
    repeat (conv => whnf); first | refine br_tt ?_ | refine br_ff ?_ | refine ⟨_, awake4_snd, ?_⟩ | refine ⟨_, o1, ?_⟩ | refine br_f z1 ?_ | refine br_f z2 ?_ | refine br_t z3 ?_ | refine And.intro (by kernel_rfl) ?_ | refine And.intro (by decide) ?_
    rfl
  have z3 := decide_eq_false m3
  by_cases m4 : e < -1200
  · have z4 := decide_eq_true m4
    repeat (conv => whnf); first | refine br_tt ?_ | refine br_ff ?_ | refine ⟨_, awake4_snd, ?_⟩ | refine ⟨_, o1, ?_⟩ | refine br_f z1 ?_ | refine br_f z2 ?_ | refine br_f z3 ?_ | refine br_t z4 ?_ | refine And.intro (by kernel_rfl) ?_ | refine And.intro (by decide) ?_
    rfl
  have z4 := decide_eq_false m4
  by_cases m5 : e > 1100
  · have z5 := decide_eq_true m5
    repeat (conv => whnf); first | refine br_tt ?_ | refine br_ff ?_ | refine ⟨_, awake4_snd, ?_⟩ | refine ⟨_, o1, ?_⟩ | refine br_f z1 ?_ | refine br_f z2 ?_ | refine br_f z3 ?_ | refine br_f z4 ?_ | refine br_t z5 ?_ | refine And.intro (by kernel_rfl) ?_ | refine And.intro (by decide) ?_
    rfl
  have z5 := decide_eq_false m5
  have cl := len_snd ho (by omega)
  have z6 := beq_len0 (n := nv l)
  by_cases m6 : nv l = 0
  · rw [decide_eq_true m6] at z6
    repeat (conv => whnf); first | refine br_tt ?_ | refine br_ff ?_ | refine ⟨_, awake4_snd, ?_⟩ | refine ⟨_, o1, ?_⟩ | refine ⟨_, cl, ?_⟩ | refine br_f z1 ?_ | refine br_f z2 ?_ | refine br_f z3 ?_ | refine br_f z4 ?_ | refine br_f z5 ?_ | refine br_t z6 ?_ | refine And.intro (by kernel_rfl) ?_ | refine And.intro (by decide) ?_
    rfl
  rw [decide_eq_false m6] at z6
  obtain ⟨ra, ma, na3⟩ := law_num h (ng := ng) ho (by omega) (show -1200 ≤ e by omega) (by omega)
  have c1 := to_snd h (mode := mode) (ng := ng) (e := e) ho (by omega) false
  have c2 := dtop_snd (na := ng) (ea := e) ho (by omega)
  obtain ⟨a, ea⟩ : ∃ a, a = (⟨ng, nv l, e⟩ : Dy) := ⟨_, rfl⟩
  have an : a.n = nv l := by rw [ea]
  have ae : a.e = e := by rw [ea]
  have aneg : a.neg = ng := by rw [ea]
  have a0 : a.n ≠ 0 := by rw [an]; exact m6
  have ct := dsub_snd3 (na := ng) (la := l) (ea := e) (b := Dy.zero) ho (by omega) few0
  clear ct
  rw [← ea] at ra ma na3 c1 c2
  rw [show Dy.top a = (a.e + nlen a.n - 1, 0) by unfold Dy.top; rw [if_pos ma, if_neg a0]] at c2
  obtain ⟨s, hs⟩ : ∃ s, s = (f.low - -1200).toNat := ⟨_, rfl⟩
  obtain ⟨x, hx⟩ : ∃ x, x = a.dv (-1200) := ⟨_, rfl⟩
  have sp := Fm.rto_spec h (mode := mode) (by omega) ra a0 false (E := -1200) (by omega) (by omega) hx hs
  have nx : nlen x = nlen a.n + (a.e - -1200).toNat := by rw [hx]; exact nlen_mul_pow a0 _
  have sg := Fm.sv_sign a0 (-1200)
  rw [← hx] at sg
  rcases sp with ⟨lt, b, e1, b1, b2, b3, b4⟩ | ⟨_, e1⟩
  case inr =>
    rw [e1] at c1
    repeat (conv => whnf); first | refine br_tt ?_ | refine br_ff ?_ | refine ⟨_, awake4_snd, ?_⟩ | refine ⟨_, o1, ?_⟩ | refine ⟨_, cl, ?_⟩ | refine ⟨_, c1, ?_⟩ | refine ⟨_, c2, ?_⟩ | refine br_f z1 ?_ | refine br_f z2 ?_ | refine br_f z3 ?_ | refine br_f z4 ?_ | refine br_f z5 ?_ | refine br_f z6 ?_ | refine br_t ov_t ?_ | refine And.intro (by kernel_rfl) ?_ | refine And.intro (by decide) ?_
    rfl
  rw [e1] at c1
  have hv := Fm.val_raw b1 b2
  have c3 := fval_snd h (Fm.lt64 h b1)
  have vv := Fm.val_va b1 b2 (E := -1200) (s := s) (by omega)
  have vm := Fm.val_may h b
  have vn := Fm.val_nlen h b
  rw [hv] at c3 vv vm vn
  dsimp only at vv vm vn
  rw [b4, b3] at vv
  generalize (f.raw b).plain = v at *
  have c4 := dsub_snd3 (na := ng) (la := l) (ea := e) (b := v) ho (by omega) (by show nlen _ ≤ 31000; omega)
  rw [← ea] at c4
  have va := va_of (a := a) (E := -1200) (by omega)
  have kg := kp_ge f.p s x
  have rh := rd_half (mode := mode) (neg := a.neg) (p := f.p) (s := s) (x := x)
  generalize rd mode a.neg f.p s x = r at *
  generalize hk : kp f.p s x = k at *
  have bn : nlen a.n ≤ 1280 := by rw [an]; exact few_nv ho (k := 40) (by omega)
  have kb : k ≤ 4000 := by rw [← hk]; unfold kp; omega
  have hk0 : 0 < k := by omega
  -- the difference
  have dif : (a.sv (-1200) + -(if a.neg = true then -(r : Int) else (r : Int))).natAbs = (x - r) + (r - x) := by
    have s1 := sg.1
    have s2 := sg.2
    cases hn : a.neg
    · rw [hn] at s1
      have := of_decide_eq_false s1.symm
      rw [if_neg (by simp)]; omega
    · rw [hn] at s1
      have := of_decide_eq_true s1.symm
      rw [if_pos rfl]; omega
  have hpk := Nat.two_pow_pos k
  have dl : (x - r) + (r - x) < 2 ^ k := by omega
  have nd : nlen ((x - r) + (r - x)) ≤ k := nlen_le_iff.2 dl
  obtain ⟨d, ed, vd, md, pd, ndn⟩ := add_va ma (show (turned v).may = true from vm) va vv.turned (by rw [dif]; omega) (by omega) (by rw [dif]; omega)
  rw [dif] at ndn
  have vd2 := vd.abs
  rw [dif] at vd2
  rw [ed] at c4
  have fd : Few d.n := by show nlen _ ≤ 31000; omega
  have md2 : (⟨false, d.n, d.e⟩ : Dy).may = true := md
  have c5 := low_snd h
  -- the place
  have w0 : (if f.low > IntKind.wrap .i64 (IntKind.wrap .i64 (a.e + (nlen a.n : Int) - 1 - (f.p : Int)) + 1) then f.low else IntKind.wrap .i64 (IntKind.wrap .i64 (a.e + (nlen a.n : Int) - 1 - (f.p : Int)) + 1)) = -1200 + (k : Int) := by
    rw [wI (x := _ - _) (by omega) (by omega), wI (by omega) (by omega), bmax, ← hk]; unfold kp; omega
  obtain ⟨PX, hPX⟩ : ∃ PX, PX = (if f.low > IntKind.wrap .i64 (IntKind.wrap .i64 (a.e + (nlen a.n : Int) - 1 - (f.p : Int)) + 1) then f.low else IntKind.wrap .i64 (IntKind.wrap .i64 (a.e + (nlen a.n : Int) - 1 - (f.p : Int)) + 1)) := ⟨_, rfl⟩
  rw [← hPX] at w0
  have n1 : nlen 1 = 1 := by decide +kernel
  have f1 : Few 1 := by show nlen 1 ≤ 31000; omega
  have w1 : IntKind.wrap .i64 (PX - 1) = -1200 + ((k - 1 : Nat) : Int) := by rw [w0, wI (by omega) (by omega)]; omega
  have c6 := dcmp_snd2 (a := ⟨false, d.n, d.e⟩) (b := ⟨false, 1, PX⟩) fd f1
  rw [cmp_va md2 (may_of (k := 1) (by dsimp only; omega) (by omega) (by dsimp only; omega) (by dsimp only; omega)) vd2 (va_bit w0)] at c6
  have c7 := dcmp_snd2 (a := ⟨false, d.n, d.e⟩) (b := ⟨false, 1, IntKind.wrap .i64 (PX - 1)⟩) fd f1
  rw [cmp_va md2 (may_of (k := 1) (by dsimp only; omega) (by omega) (by dsimp only; omega) (by dsimp only; omega)) vd2 (va_bit w1)] at c7
  rw [show sI ((((x - r) + (r - x) : Nat) : Int) - ((2 ^ k : Nat) : Int)) = -1 by unfold sI; rw [if_pos (by omega)]] at c6
  have hh : 2 ^ k = 2 * 2 ^ (k - 1) := by rw [← Nat.pow_succ']; congr 1; omega
  have q : (mode = 0 ∨ mode = 4) → sI ((((x - r) + (r - x) : Nat) : Int) - ((2 ^ (k - 1) : Nat) : Int)) ≤ 0 := fun hm => by
    rw [sI_le.1]
    have := rh.2 hm
    generalize 2 ^ (k - 1) = u at *
    omega
  generalize sI ((((x - r) + (r - x) : Nat) : Int) - ((2 ^ (k - 1) : Nat) : Int)) = z at *
  rw [hPX] at c6 c7
  clear hPX
  by_cases q0 : z ≤ 0
  · have w := decide_eq_true q0
    have w4 := ov_f (Fm.fl_cases (f := f) s x)
    repeat (conv => whnf); first | refine br_tt ?_ | refine br_ff ?_ | refine ⟨_, awake4_snd, ?_⟩ | refine ⟨_, o1, ?_⟩ | refine ⟨_, cl, ?_⟩ | refine ⟨_, c1, ?_⟩ | refine ⟨_, c2, ?_⟩ | refine ⟨_, c3, ?_⟩ | refine ⟨_, c4, ?_⟩ | refine ⟨_, c5, ?_⟩ | refine ⟨_, c6, ?_⟩ | refine ⟨_, c7, ?_⟩ | refine ⟨_, natone_snd, ?_⟩ | refine br_f z1 ?_ | refine br_f z2 ?_ | refine br_f z3 ?_ | refine br_f z4 ?_ | refine br_f z5 ?_ | refine br_f z6 ?_ | refine br_f w4 ?_ | refine br_t w ?_ | refine And.intro (by kernel_rfl) ?_ | refine And.intro (by decide) ?_
    rfl
  · have w := decide_eq_false q0
    have v0 : (mode != 0) = true := by rw [bne_iff_ne]; exact fun e => q0 (q (.inl e))
    have v4 : (mode != 4) = true := by rw [bne_iff_ne]; exact fun e => q0 (q (.inr e))
    have w4 := ov_f (Fm.fl_cases (f := f) s x)
    repeat (conv => whnf); first | refine br_tt ?_ | refine br_ff ?_ | refine ⟨_, awake4_snd, ?_⟩ | refine ⟨_, o1, ?_⟩ | refine ⟨_, cl, ?_⟩ | refine ⟨_, c1, ?_⟩ | refine ⟨_, c2, ?_⟩ | refine ⟨_, c3, ?_⟩ | refine ⟨_, c4, ?_⟩ | refine ⟨_, c5, ?_⟩ | refine ⟨_, c6, ?_⟩ | refine ⟨_, c7, ?_⟩ | refine ⟨_, natone_snd, ?_⟩ | refine br_f z1 ?_ | refine br_f z2 ?_ | refine br_f z3 ?_ | refine br_f z4 ?_ | refine br_f z5 ?_ | refine br_f z6 ?_ | refine br_f w4 ?_ | refine br_f w ?_ | refine br_t v0 ?_ | refine br_t v4 ?_ | refine And.intro (by kernel_rfl) ?_ | refine And.intro (by decide) ?_
    show AV.a (.b (mode != 4)) = _
    rw [v4]
abbrev f32 : Fm := ⟨24, 8⟩
abbrev f64 : Fm := ⟨53, 11⟩
theorem ok32 : f32.ok := .inr (.inl rfl)
theorem ok64 : f64.ok := .inr (.inr rfl)
/-- What the law RoundNested asks of one of its three modes. -/
theorem nested_all {mode : Int} (hm : mode = 1 ∨ mode = 2 ∨ mode = 3) {a : Dy} (ha : rmay a = true) :
    ∃ b x, f64.rto mode a false = (b, x, 0) ∧ b < 2 ^ 64 ∧ (x = 5 ∨ (x = 0 ∨ x = 1 ∨ x = 3) ∧ f64.cl b ≤ 2 ∧ b < 2 ^ (f64.p + f64.w) ∧ (∃ c y z, f16.rto mode a false = (c, y, 0) ∧ f16.rto mode (f64.raw b).plain (f64.sn b) = (c, z, 0)) ∧
      ∃ c y z, f32.rto mode a false = (c, y, 0) ∧ f32.rto mode (f64.raw b).plain (f64.sn b) = (c, z, 0)) := by
  by_cases h0 : a.n = 0
  · obtain ⟨z1, z2, z3, z4⟩ := Fm.zero_bits ok64 false
    have r0 : ∀ g : Fm, ∀ {q : Dy} (n : Bool), rmay q = true → q.n = 0 → g.rto mode q n = (g.bld n 0 0, 0, 0) := fun g q n hq q0 => by
      unfold Fm.rto; rw [if_neg (by omega), if_pos hq, if_pos q0]
    have q0 : (f64.raw (f64.bld false 0 0)).plain.n = 0 := plain_n.2 (Fm.mg_zero.2 z2)
    have qr := Fm.val_rmay ok64 (b := f64.bld false 0 0)
    refine ⟨_, _, r0 f64 false ha h0, Fm.lt64 ok64 z1, .inr ⟨.inl rfl, by omega, z1, ⟨_, _, 0, r0 f16 false ha h0, ?_⟩, ⟨_, _, 0, r0 f32 false ha h0, ?_⟩⟩⟩
    · rw [z3]; exact r0 f16 false qr q0
    · rw [z3]; exact r0 f32 false qr q0
  · obtain ⟨b, x, e1, e2, e3⟩ := Fm.nested ok16 ok64 (by decide) (by decide) hm ha h0 false
    obtain ⟨b', x', e1', e2', e3'⟩ := Fm.nested ok32 ok64 (by decide) (by decide) hm ha h0 false
    rw [e1] at e1'
    cases e1'
    refine ⟨b, x, e1, e2, ?_⟩
    rcases e3 with k | ⟨k1, k2, k3, k4⟩
    · exact .inl k
    · rcases e3' with j | ⟨_, _, _, j4⟩
      · exact .inl j
      · exact .inr ⟨k1, k2, k3, k4, j4⟩
theorem roundNested_law (mode : Int) (ng : Bool) (l : List Int) (e : Int) (hmode : (Lit.int .i64 mode).wf = true) (hw : ∀ y ∈ l, (Lit.int .u32 y).wf = true) (hy : l.length * 4 ≤ 140737488351232) (he : (Lit.int .i64 e).wf = true) :
    Snd Try.prog 7 [.a (iA mode), .g (dL ng l e)] (.a (.b true)) := by
  have ho := ok_of_wf hw
  have o1 : Snd Try.prog 10 [.a (iA 64)] (.t [.g (fmA f64), .a (iA 0)]) := fof_snd 64
  have o2 : Snd Try.prog 10 [.a (iA 16)] (.t [.g (fmA f16), .a (iA 0)]) := fof_snd 16
  have o3 : Snd Try.prog 10 [.a (iA 32)] (.t [.g (fmA f32), .a (iA 0)]) := fof_snd 32
  refine snd_of ttOk mixed Try.func7 Try.ntmps7 rfl (by kernel_rfl) rfl ?_
  by_cases m3 : (l.length : Int) > 40
  · have z3 := decide_eq_true m3
    repeat (conv => whnf); first | refine br_tt ?_ | refine br_ff ?_ | refine ⟨_, awake4_snd, ?_⟩ | refine ⟨_, o1, ?_⟩ | refine br_t z3 ?_ | refine And.intro (by kernel_rfl) ?_ | refine And.intro (by decide) ?_
    rfl
  have z3 := decide_eq_false m3
  by_cases m4 : e < -1200
  · have z4 := decide_eq_true m4
    repeat (conv => whnf); first | refine br_tt ?_ | refine br_ff ?_ | refine ⟨_, awake4_snd, ?_⟩ | refine ⟨_, o1, ?_⟩ | refine br_f z3 ?_ | refine br_t z4 ?_ | refine And.intro (by kernel_rfl) ?_ | refine And.intro (by decide) ?_
    rfl
  have z4 := decide_eq_false m4
  by_cases m5 : e > 1100
  · have z5 := decide_eq_true m5
    repeat (conv => whnf); first | refine br_tt ?_ | refine br_ff ?_ | refine ⟨_, awake4_snd, ?_⟩ | refine ⟨_, o1, ?_⟩ | refine br_f z3 ?_ | refine br_f z4 ?_ | refine br_t z5 ?_ | refine And.intro (by kernel_rfl) ?_ | refine And.intro (by decide) ?_
    rfl
  have z5 := decide_eq_false m5
  obtain ⟨ra, ma, na3⟩ := law_num ok64 (ng := ng) ho (by omega) (show -1200 ≤ e by omega) (by omega)
  by_cases hm : mode = 1 ∨ mode = 2 ∨ mode = 3
  case neg =>
    have w1 : (mode != 1) = true := by rw [bne_iff_ne]; omega
    have w2 : (mode != 2) = true := by rw [bne_iff_ne]; omega
    have w3 : (mode != 3) = true := by rw [bne_iff_ne]; omega
    repeat (conv => whnf); first | refine br_tt ?_ | refine br_ff ?_ | refine ⟨_, awake4_snd, ?_⟩ | refine ⟨_, o1, ?_⟩ | refine br_f z3 ?_ | refine br_f z4 ?_ | refine br_f z5 ?_ | refine br_t w1 ?_ | refine br_t w2 ?_ | refine br_t w3 ?_ | refine And.intro (by kernel_rfl) ?_ | refine And.intro (by decide) ?_
    rfl
  obtain ⟨b, x, e1, e2, hx⟩ := nested_all hm ra
  have c1 := to_snd ok64 (mode := mode) (ng := ng) (e := e) ho (by omega) false
  rw [e1] at c1
  have c2 := fval_snd ok64 e2
  rcases hx with rfl | ⟨x1, b2, b1, ⟨c, y, z, k1, k2⟩, ⟨c', y', z', k3, k4⟩⟩
  · rcases hm with rfl | rfl | rfl
    all_goals
      repeat (conv => whnf); first | refine br_tt ?_ | refine br_ff ?_ | refine ⟨_, awake4_snd, ?_⟩ | refine ⟨_, o1, ?_⟩ | refine ⟨_, c1, ?_⟩ | refine br_f z3 ?_ | refine br_f z4 ?_ | refine br_f z5 ?_ | refine br_t ov_t ?_ | refine And.intro (by kernel_rfl) ?_ | refine And.intro (by decide) ?_
      rfl
  have hv := Fm.val_raw b1 b2
  have vn := Fm.val_nlen ok64 b
  rw [hv] at c2 vn
  have fv : Few (f64.raw b).plain.n := by show nlen _ ≤ 31000; dsimp only at vn; omega
  have c3 := fneg_snd ok64 e2
  have c4 := to_snd ok16 (mode := mode) (ng := ng) (e := e) ho (by omega) false
  rw [k1] at c4
  have c5 := to_snd' ok16 (mode := mode) fv (f64.sn b)
  rw [k2] at c5
  have c6 := to_snd ok32 (mode := mode) (ng := ng) (e := e) ho (by omega) false
  rw [k3] at c6
  have c7 := to_snd' ok32 (mode := mode) fv (f64.sn b)
  rw [k4] at c7
  have y1 : (((c : Nat) : Int) != ((c : Nat) : Int)) = false := bne_self_eq_false _
  have y2 : (((c' : Nat) : Int) != ((c' : Nat) : Int)) = false := bne_self_eq_false _
  have w4 := ov_f x1
  rcases hm with rfl | rfl | rfl
  all_goals
    repeat (conv => whnf); first | refine ⟨4, ?_⟩ | refine br_tt ?_ | refine br_ff ?_ | refine ⟨_, awake4_snd, ?_⟩ | refine ⟨_, o1, ?_⟩ | refine ⟨_, o2, ?_⟩ | refine ⟨_, o3, ?_⟩ | refine ⟨_, c1, ?_⟩ | refine ⟨_, c2, ?_⟩ | refine ⟨_, c3, ?_⟩ | refine ⟨_, c4, ?_⟩ | refine ⟨_, c5, ?_⟩ | refine ⟨_, c6, ?_⟩ | refine ⟨_, c7, ?_⟩ | refine br_f z3 ?_ | refine br_f z4 ?_ | refine br_f z5 ?_ | refine br_f w4 ?_ | refine br_f y1 ?_ | refine br_f y2 ?_ | refine And.intro (by kernel_rfl) ?_ | refine And.intro (by decide) ?_
    rfl
end Go.Proofs.Ytlapfomfnmccgaa.A
