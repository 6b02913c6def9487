/- The contracts of the parts, of the law's own questions and of references 8 and 18, for all words of the three formats. -/
import Derived.Test.YtkgeihbcikiedaaS69
import Derived.Test.YtkgeihbcikiedaaS16
set_option linter.unusedVariables false
set_option linter.unusedSimpArgs false
set_option linter.constructorNameAsVariable false
set_option linter.unusedSectionVars false
set_option maxRecDepth 100000
set_option maxHeartbeats 8000000
namespace Go.Proofs.Ytkgeihbcikiedaa.A
open Go.RowKit Go.Proofs.Ytkgeihbcikiedaa.P Go.Proofs.YtkgeihbcikiedaaW.PrintWords Go.Proofs.YtkgeihbcikiedaaW.PrintMore Go.Proofs.Ytkgeihbcikiedaa.N Sk Dy
theorem rD {f : Fm} (h : f.ok) {x : Nat} (hx : x < 2 ^ (f.p + f.w)) : Snd Try.prog 8 [.g (fmA f), .a (uA x)] (.t [.a (.rs [parts (exq f x), parts (f.mg x), parts (zf f x)]), .a (.b true)]) := by
 have hB := Fm.bounds h; have h64 : x < 2 ^ 64 := Nat.lt_of_lt_of_le hx (Nat.pow_le_pow_right (by omega) (by rcases h with rfl | rfl | rfl <;> simp)); have hK := I1 h hx; obtain ⟨L, hL⟩ := Ny h64; refine ⟨⟨_, Try.func8, by kernel_rfl, rfl⟩, fun w Pk vs hvs => ?_⟩
 match vs, hvs with
 | [v, u], ⟨⟨arr, hv, hr⟩, hu, _⟩ =>
  have hu' : u = .int .u64 (x : Int) := hu; subst hu'; subst hv; obtain ⟨l⟩ := arr
  match l, hr with
  | [a, b, c], ⟨h1, h2, h3, _⟩ =>
   have h1' : a = .int .i64 ((f.p + f.w : Nat) : Int) := h1; have h2' : b = .int .i64 (f.p : Int) := h2; have h3' : c = .int .i64 (f.w : Int) := h3; subst h1'; subst h2'; subst h3'; refine (FB L (f.p + f.w) f.p f.w (x : Int) [parts x] [parts (exq f x), parts (f.mg x), parts (zf f x)] w (by omega) (by omega) rfl (by rcases h with rfl | rfl | rfl <;> simp) (hL _ (Nat.le_refl _)) hK).mono ?_; rintro e w' ⟨v, rfl, hv, hb⟩; exact ⟨_, rfl, ⟨#[v, .bool true], rfl, Kd.iB (e := 0) (base := 0) hv (fun k hk => .inr hk), rfl, trivial⟩, hb⟩
theorem uj {l : List Int} {n : Nat} (hl : l.length ≤ 100000000) (hn : bu n ≤ 10000000) : Snd Try.prog 10 [.a (.v .u32 l), .a (bA n)] (.a (.b (decide (l = parts n)))) := by
 have c1 := I4 hn; have c2 := Nz (b := parts n) hl; refine gD kN mixed Try.func10 Try.ntmps10 rfl (by kernel_rfl) rfl ?_
 repeat (conv => whnf); first | refine dO ?_ | refine dP ?_ | refine ⟨_, c1, ?_⟩ | refine ⟨_, c2, ?_⟩ | refine And.intro (by kernel_rfl) ?_ | refine And.intro (by decide) ?_
 rfl
theorem NA (a b c d e : Bool) : Snd Try.prog 12 [.a (.w [a, b, c, d, e])] (.a (uA (bv [a, b, c, d, e]))) := by
 refine gD kN mixed Try.func12 Try.ntmps12 rfl (by kernel_rfl) rfl ?_
 cases a <;> cases b <;> cases c <;> cases d <;> cases e
 all_goals
  repeat (conv => whnf); first | refine ⟨6, ?_⟩ | refine dO ?_ | refine dP ?_ | refine And.intro (by kernel_rfl) ?_ | refine And.intro (by decide) ?_
  rfl
section
variable {f : Fm} (h : f.ok)
include h
theorem NB {b : Nat} (hb : b < 2 ^ 64) : Snd Try.prog 9 [.g (fmA f), .a (uA b)] (.t [.a (uA (sb f b)), .a (uA (exq f b)), .a (uA (f.mg b)), .g [.b (((f.cl b : Nat) : Int) == 0), .b (((f.cl b : Nat) : Int) == 3), .b (decide (4 ≤ ((f.cl b : Nat) : Int))), .b (((f.cl b : Nat) : Int) == 5)]]) := by
 have hB := Fm.bounds h; have c1 := qI h hb; have c2 := Tx h hb; refine gD kN mixed Try.func9 Try.ntmps9 rfl (by kernel_rfl) rfl ?_; unfold exq Fm.mg
 by_cases he : f.ex b = 0
 ·rw [if_pos he, if_pos he]
  have z : (((f.ex b : Nat) : Int) == 0) = true := by rw [he]; rfl
  repeat (conv => whnf); first | refine dO ?_ | refine dP ?_ | refine ⟨_, c1, ?_⟩ | refine ⟨_, c2, ?_⟩ | refine iU z ?_ | refine And.intro (by kernel_rfl) ?_ | refine And.intro (by decide) ?_
  rfl
 ·rw [if_neg he, if_neg he]
  have z : (((f.ex b : Nat) : Int) == 0) = false := by rw [beq_eq_false_iff_ne]; omega
  have e : ∀ H : Int, H = ((2 ^ (f.p - 1) : Nat) : Int) → IntKind.wrap .u64 (((f.fr b : Nat) : Int) + H) = ((f.fr b + 2 ^ (f.p - 1) : Nat) : Int) := fun H hH => by
   subst hH; have h1 := Fm.oD h (b := b); have h2 : 2 ^ (f.p - 1) ≤ 2 ^ 53 := Nat.pow_le_pow_right (by omega) (by omega); rw [wU (by omega) (by omega)]; omega
  rcases h with rfl | rfl | rfl
  all_goals
   repeat (conv => whnf); first | refine ⟨60, ?_⟩ | refine dO ?_ | refine dP ?_ | refine ⟨_, c1, ?_⟩ | refine ⟨_, c2, ?_⟩ | refine fJ z ?_ | refine And.intro (by kernel_rfl) ?_ | refine And.intro (by decide) ?_
   show AV.t [.a (uA (sb _ b)), .a (uA (Fm.ex _ b)), .a (.i .u64 (IntKind.wrap .u64 (((Fm.fr _ b : Nat) : Int) + _))), .g _] = _; rw [e _ (by decide +kernel)]; rfl
end
theorem Lf (bits : Int) (x : Nat) (hf : Bu bits = none) : Snd Try.prog 7 [.a (iA bits), .a (.v .u64 [(x : Int)])] (.t [.g [iA 0, iA 0, iA 0], .g [iA 0, iA 0, iA 0], .a (.b false)]) := by
 have o1 := Dk bits; have o2 := FC bits; rw [hf] at o1 o2; refine gD kN mixed Try.func7 Try.ntmps7 rfl (by kernel_rfl) rfl ?_
 repeat (conv => whnf); first | refine dO ?_ | refine dP ?_ | refine ⟨_, o1, ?_⟩ | refine ⟨_, o2, ?_⟩ | refine And.intro (by kernel_rfl) ?_ | refine And.intro (by decide) ?_
 rfl
theorem Lg {bits : Int} {f : Fm} (hf : Bu bits = some f) {x : Nat} (hx : x < 2 ^ 64) : Snd Try.prog 7 [.a (iA bits), .a (.v .u64 [(x : Int)])] (.t [.g (fmA f), .g (fmA f), .a (.b (!decide (2 ^ (f.p + f.w) ≤ x)))]) := by
 have o1 := Dk bits; have o2 := FC bits; rw [hf] at o1 o2; obtain ⟨h, hbt⟩ := Dl hf; have c1 := qI h hx
 have z2 : 0 ≤ (0 : Int) ∧ (0 : Int) < (([(x : Int)] : List Int).length : Int) := ⟨by omega, by simp⟩
 refine gD kN mixed Try.func7 Try.ntmps7 rfl (by kernel_rfl) rfl ?_
 by_cases hb : 2 ^ (f.p + f.w) ≤ x
 ·rw [decide_eq_true hb] at c1 ⊢
  rcases h with rfl | rfl | rfl
  all_goals
   repeat (conv => whnf); first | refine ⟨2, ?_⟩ | refine dO ?_ | refine dP ?_ | refine ⟨_, o1, ?_⟩ | refine ⟨_, o2, ?_⟩ | refine ⟨_, c1, ?_⟩ | refine And.intro z2 ?_ | refine And.intro (by kernel_rfl) ?_ | refine And.intro (by decide) ?_
   rfl
 ·rw [decide_eq_false hb] at c1 ⊢
  rcases h with rfl | rfl | rfl
  all_goals
   repeat (conv => whnf); first | refine ⟨2, ?_⟩ | refine dO ?_ | refine dP ?_ | refine ⟨_, o1, ?_⟩ | refine ⟨_, o2, ?_⟩ | refine ⟨_, c1, ?_⟩ | refine And.intro z2 ?_ | refine And.intro (by kernel_rfl) ?_ | refine And.intro (by decide) ?_
   rfl
theorem WB : (⟨11, 5⟩ : Fm).ok := .inl rfl
theorem jT : Snd Try.prog 6 [] (.a (.b true)) := by
 have o1 := Dk 16; have p1 := (rD WB (x := 0x3c01) (by decide)).to (r' := .t [.a (.rs [parts 15, parts 1025, parts 0]), .a (.b true)]) (by rw [show exq ⟨11, 5⟩ 0x3c01 = 15 by decide +kernel, show Fm.mg ⟨11, 5⟩ 0x3c01 = 1025 by decide +kernel, show zf ⟨11, 5⟩ 0x3c01 = 0 by decide +kernel]); have p2 := (rD WB (x := 0xfc00) (by decide)).to (r' := .t [.a (.rs [parts 31, parts 1024, parts 5]), .a (.b true)]) (by rw [show exq ⟨11, 5⟩ 0xfc00 = 31 by decide +kernel, show Fm.mg ⟨11, 5⟩ 0xfc00 = 1024 by decide +kernel, show zf ⟨11, 5⟩ 0xfc00 = 5 by decide +kernel]); have w1 := oF (n := 15) (by decide) (by decide); have w2 := oF (n := 1025) (by decide) (by decide); have w3 := oF (n := 0) (by decide) (by decide); have w4 := oF (n := 5) (by decide) (by decide); have l1 : (parts 15).length ≤ 100000000 := Nat.le_trans (fP (k := 1) (by decide)) (by decide); have l2 : (parts 1025).length ≤ 100000000 := Nat.le_trans (fP (k := 1) (by decide)) (by decide); have l3 : (parts 0).length ≤ 100000000 := Nat.le_trans (fP (k := 1) (by decide)) (by decide); have l4 : (parts 5).length ≤ 100000000 := Nat.le_trans (fP (k := 1) (by decide)) (by decide); have i1 := (uj (n := 15) l1 (Nat.le_trans (iw (k := 64) (by decide)) (by decide))).to (r' := .a (.b true)) (by rw [decide_eq_true rfl]); have i2 := (uj (n := 1025) l2 (Nat.le_trans (iw (k := 64) (by decide)) (by decide))).to (r' := .a (.b true)) (by rw [decide_eq_true rfl]); have i3 := (uj (n := 0) l3 (Nat.le_trans (iw (k := 64) (by decide)) (by decide))).to (r' := .a (.b true)) (by rw [decide_eq_true rfl]); have i4 := (uj (n := 5) l4 (Nat.le_trans (iw (k := 64) (by decide)) (by decide))).to (r' := .a (.b true)) (by rw [decide_eq_true rfl]); refine gD kN mixed Try.func6 Try.ntmps6 rfl (by kernel_rfl) rfl ?_
 repeat (conv => whnf); first | refine dO ?_ | refine dP ?_ | refine ⟨_, o1, ?_⟩ | refine ⟨_, p1, ?_⟩ | refine ⟨_, p2, ?_⟩ | refine ⟨_, w1, ?_⟩ | refine ⟨_, w2, ?_⟩ | refine ⟨_, w3, ?_⟩ | refine ⟨_, w4, ?_⟩ | refine ⟨_, i1, ?_⟩ | refine ⟨_, i2, ?_⟩ | refine ⟨_, i3, ?_⟩ | refine ⟨_, i4, ?_⟩ | refine And.intro (by kernel_rfl) ?_ | refine And.intro (by decide) ?_
 rfl
end Go.Proofs.Ytkgeihbcikiedaa.A
