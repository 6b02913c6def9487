/- The law UnpackValue answers true, at every input of its types. -/
import Derived.Test.YtkgeihbcikiedaaS71
import Derived.Test.YtkgeihbcikiedaaS7
set_option linter.unusedVariables false
set_option linter.unusedSimpArgs false
set_option linter.constructorNameAsVariable false
set_option linter.unusedSectionVars false
set_option maxRecDepth 100000
set_option maxHeartbeats 8000000
namespace Go.Proofs.Ytkgeihbcikiedaa.A
open Go.RowKit Go.Proofs.Ytkgeihbcikiedaa.P Go.Proofs.YtkgeihbcikiedaaW.PrintWords Go.Proofs.YtkgeihbcikiedaaW.PrintMore Go.Proofs.Ytkgeihbcikiedaa.N Sk Dy
theorem SF : ∀ z : Fin 32, (Go.bits .and .u32 ((z.val : Nat) : Int) 12 != 0) = decide (z.val / 4 % 4 ≠ 0) := by decide +kernel
theorem V8 : ∀ z : Fin 32, (Go.bits .and .u64 ((z.val : Nat) : Int) 1 == 1) = decide (z.val % 2 = 1) := by decide +kernel
theorem SG : ∀ z : Fin 32, (Go.bits .and .u64 ((z.val : Nat) : Int) 12 == 0) = decide (z.val / 4 % 4 = 0) := by decide +kernel
theorem V9 : ∀ z : Fin 32, (Go.bits .and .u64 ((z.val : Nat) : Int) 2 != 0) = decide (z.val / 2 % 2 = 1) := by decide +kernel
theorem Iw {z : Nat} (h0 : z ≠ 0) (h : z < 4294967296) : parts z = [(z : Int)] := by
 rw [lM h0, Nat.div_eq_of_lt h, gZ, Nat.mod_eq_of_lt h]
theorem Xe (f : Fm) (x : Nat) : f.cl x ≤ 5 := by unfold Fm.cl; split <;> (try split) <;> (try split) <;> (try split) <;> omega
theorem abf (f : Fm) (x : Nat) : zf f x % 2 = bN (f.sn x) ∧ zf f x / 2 % 2 = bN (decide (f.cl x = 0)) ∧ (zf f x / 4 % 4 = 0 ↔ f.cl x ≤ 2) := by
 have h := Xe f x; unfold zf; generalize f.cl x = c at *; have hs := Cj (f.sn x); generalize bN (f.sn x) = s at *
 have : c = 0 ∨ c = 1 ∨ c = 2 ∨ c = 3 ∨ c = 4 ∨ c = 5 := by omega
 rcases this with rfl | rfl | rfl | rfl | rfl | rfl <;> simp [bN] <;> omega
theorem Wd {f : Fm} (h : f.ok) (b : Nat) : Few (f.val b).1.n := by have := Fm.GA h b; show bu _ ≤ 31000; omega
theorem unpackValue_law (bits x : Int) (hbits : (Lit.int .i64 bits).wf = true) (hx : (Lit.int .u64 x).wf = true) : Snd Try.prog 5 [.a (iA bits), .a (.i .u64 x)] (.a (.b true)) := by
 obtain ⟨b, rfl, hb⟩ := LX hx; refine gD kN mixed Try.func5 Try.ntmps5 rfl (by kernel_rfl) rfl ?_
 cases hf : Bu bits with
 | none =>
  have c := Lf bits b hf
  repeat (conv => whnf); first | refine dO ?_ | refine dP ?_ | refine ⟨_, jT, ?_⟩ | refine ⟨_, c, ?_⟩ | refine And.intro (by kernel_rfl) ?_ | refine And.intro (by decide) ?_
  rfl
 | some f =>
  obtain ⟨h, hbt⟩ := Dl hf; have c := Lg hf hb
  by_cases hc : 2 ^ (f.p + f.w) ≤ b
  ·rw [decide_eq_true hc] at c
   repeat (conv => whnf); first | refine dO ?_ | refine dP ?_ | refine ⟨_, jT, ?_⟩ | refine ⟨_, c, ?_⟩ | refine And.intro (by kernel_rfl) ?_ | refine And.intro (by decide) ?_
   rfl
  ·rw [decide_eq_false hc] at c; have hB := Fm.bounds h; have p1 := rD h (x := b) (by omega); have v1 := RJ h hb; have zl := QF (f := f) b; obtain ⟨m1, m2, m3⟩ := abf f b
   rcases Fm.Ou (f := f) b with ⟨_, k⟩ | ⟨hv, _, hcl⟩ | ⟨hv, _, hcl⟩
   ·exact absurd k hc
   ·rw [hv, yf] at v1
    have hz : zf f b / 4 % 4 ≠ 0 := fun e => by have := m3.1 e; omega
    rw [Iw (z := zf f b) (by intro e; rw [e] at hz; exact hz rfl) (by omega)] at p1; have y := SF ⟨zf f b, zl⟩; rw [decide_eq_true (show ((⟨zf f b, zl⟩ : Fin 32).val / 4 % 4 ≠ 0) from hz)] at y
    have z2 : 0 ≤ (2 : Int) ∧ (2 : Int) < (([parts (exq f b), parts (f.mg b), [((zf f b : Nat) : Int)]] : List (List Int)).length : Int) := ⟨by omega, by simp⟩
    have z0 : 0 ≤ (0 : Int) ∧ (0 : Int) < (([((zf f b : Nat) : Int)] : List Int).length : Int) := ⟨by omega, by simp⟩
    repeat (conv => whnf); first | refine dO ?_ | refine dP ?_ | refine ⟨_, jT, ?_⟩ | refine ⟨_, c, ?_⟩ | refine ⟨_, p1, ?_⟩ | refine ⟨_, v1, ?_⟩ | refine And.intro z2 ?_ | refine And.intro z0 ?_ | refine And.intro (by kernel_rfl) ?_ | refine And.intro (by decide) ?_
    show AV.a (.b (Go.bits .and .u32 ((zf f b : Nat) : Int) 12 != 0)) = _; rw [show (Go.bits .and .u32 ((zf f b : Nat) : Int) 12 != 0) = true from y]
   ·rw [hv] at v1
    have z0 : 0 ≤ (0 : Int) ∧ (0 : Int) < (([parts (exq f b), parts (f.mg b), parts (zf f b)] : List (List Int)).length : Int) := ⟨by omega, by simp⟩
    have z1 : 0 ≤ (1 : Int) ∧ (1 : Int) < (([parts (exq f b), parts (f.mg b), parts (zf f b)] : List (List Int)).length : Int) := ⟨by omega, by simp⟩
    have z2 : 0 ≤ (2 : Int) ∧ (2 : Int) < (([parts (exq f b), parts (f.mg b), parts (zf f b)] : List (List Int)).length : Int) := ⟨by omega, by simp⟩
    have el := JO h b; have e1 := (H5 (l := parts (exq f b)) (jW _) (Nat.le_trans (fP (k := 2) (by simpa using el)) (by decide))).to (r' := .t [.a (uA (exq f b)), .a (iA 0)]) (by rw [gH, if_pos (by omega)]); have e2 := (H5 (l := parts (zf f b)) (jW _) (Nat.le_trans (fP (k := 2) (by simp; omega)) (by decide))).to (r' := .t [.a (uA (zf f b)), .a (iA 0)]) (by rw [gH, if_pos (by omega)]); have lo := MS h; have cc := MW h hb; have y1 := V8 ⟨zf f b, zl⟩; have y12 := SG ⟨zf f b, zl⟩; have y2 := V9 ⟨zf f b, zl⟩; dsimp only at y1 y12 y2; rw [decide_eq_true (m3.2 hcl)] at y12; rw [m2] at y2; rw [m1] at y1
    have ex1 : exq f b < 2 ^ 12 := by
     have h1 := Fm.nN (f := f) (b := b); have h2 : 2 ^ f.w ≤ 2 ^ 11 := Nat.pow_le_pow_right (by omega) (by omega)
     unfold exq; split <;> omega
    have hE : IntKind.wrap .i64 (IntKind.wrap .i64 (f.low + IntKind.wrap .i64 ((exq f b : Nat) : Int)) - 1) = f.pl b := by
     rw [wI (x := ((exq f b : Nat) : Int)) (by omega) (by omega), wI (x := f.low + ((exq f b : Nat) : Int)) (by omega) (by omega), wI (by omega) (by omega)]; unfold Fm.pl exq
     split <;> omega
    have mm : f.mg b < 2 ^ 64 := D7 h b; have hv2 := Fm.rF h b; rw [hv] at hv2
    have fr : Few (f.raw b).n := by show bu (f.mg b) ≤ _; have := iw mm; omega
    have fp : Few (f.raw b).plain.n := by
     have h1 := Wd h b
     rwa [hv] at h1
    have sm := JR fr fp; rw [TC (Fm.LZ h b) hv2 (Fm.QH b) (Fm.QH b).plain] at sm
    have hs : decide (bN (f.sn b) = 1) = f.sn b := by cases f.sn b <;> rfl
    rw [hs] at y1
    have sm' : Snd Try.prog 30 [.g [.b (Go.bits .and .u64 ((zf f b : Nat) : Int) 1 == 1), nA (f.mg b), iA (IntKind.wrap .i64 (IntKind.wrap .i64 (f.low + IntKind.wrap .i64 ((exq f b : Nat) : Int)) - 1))], .g (dA (f.raw b).plain)] (.a (.b true)) := by
     rw [y1, hE]; exact sm
    repeat (conv => whnf); first | refine dO ?_ | refine dP ?_ | refine ⟨_, jT, ?_⟩ | refine ⟨_, c, ?_⟩ | refine ⟨_, p1, ?_⟩ | refine ⟨_, v1, ?_⟩ | refine ⟨_, e1, ?_⟩ | refine ⟨_, e2, ?_⟩ | refine ⟨_, lo, ?_⟩ | refine ⟨_, cc, ?_⟩ | refine ⟨_, sm', ?_⟩ | refine iU y12 ?_ | refine And.intro z0 ?_ | refine And.intro z1 ?_ | refine And.intro z2 ?_ | refine And.intro (by kernel_rfl) ?_ | refine And.intro (by decide) ?_
    show AV.a (.b ((Go.bits .and .u64 ((zf f b : Nat) : Int) 2 != 0) == (((f.cl b : Nat) : Int) == 0))) = _; rw [y2]
    have e0 : (((f.cl b : Nat) : Int) == 0) = decide (f.cl b = 0) := by rw [Bool.eq_iff_iff, beq_iff_eq, decide_eq_true_eq]; omega
    rw [e0]
    by_cases h0 : f.cl b = 0 <;> simp [h0, bN]
end Go.Proofs.Ytkgeihbcikiedaa.A
