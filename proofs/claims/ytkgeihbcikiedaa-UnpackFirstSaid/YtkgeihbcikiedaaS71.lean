/- The contracts that the law calls (the law's own questions, references 8 and 18, and UnpackTells where it is used), for all words of the three formats. -/
import Derived.Test.YtkgeihbcikiedaaS69
import Derived.Test.YtkgeihbcikiedaaS17
set_option linter.unusedVariables false
set_option linter.unusedSimpArgs false
set_option linter.constructorNameAsVariable false
set_option linter.unusedSectionVars false
set_option maxRecDepth 100000
set_option maxHeartbeats 8000000
namespace Go.Proofs.Ytkgeihbcikiedaa.A
open Go.RowKit Go.Proofs.Ytkgeihbcikiedaa.P Go.Proofs.YtkgeihbcikiedaaW.PrintWords Go.Proofs.YtkgeihbcikiedaaW.PrintMore Go.Proofs.Ytkgeihbcikiedaa.N Sk Dy
theorem Ck {f : Fm} (h : f.ok) {x : Nat} (hx : x < 2 ^ (f.p + f.w)) : Snd Try.prog 8 [.g (fmA f), .a (uA x)] (.t [.a (.rs [parts (exq f x), parts (f.mg x), parts (zf f x)]), .a (.b true)]) := by
 have hB := Fm.bounds h; have h64 : x < 2 ^ 64 := Nat.lt_of_lt_of_le hx (Nat.pow_le_pow_right (by omega) (by rcases h with rfl | rfl | rfl <;> simp)); have hK := IB h hx; obtain ⟨L, hL⟩ := MK h64; refine ⟨⟨_, Try.func8, by kernel_rfl, rfl⟩, fun w Pk vs hvs => ?_⟩
 match vs, hvs with
 | [v, u], ⟨⟨arr, hv, hr⟩, hu, _⟩ =>
  have hu' : u = .int .u64 (x : Int) := hu; subst hu'; subst hv; obtain ⟨l⟩ := arr
  match l, hr with
  | [a, b, c], ⟨h1, h2, h3, _⟩ =>
   have h1' : a = .int .i64 ((f.p + f.w : Nat) : Int) := h1; have h2' : b = .int .i64 (f.p : Int) := h2; have h3' : c = .int .i64 (f.w : Int) := h3; subst h1'; subst h2'; subst h3'; refine (FB L (f.p + f.w) f.p f.w (x : Int) [parts x] [parts (exq f x), parts (f.mg x), parts (zf f x)] w (by omega) (by omega) rfl (by rcases h with rfl | rfl | rfl <;> simp) (hL _ (Nat.le_refl _)) hK).mono ?_; rintro e w' ⟨v, rfl, hv, hb⟩; exact ⟨_, rfl, ⟨#[v, .bool true], rfl, Kd.j6 (e := 0) (base := 0) hv (fun k hk => .inr hk), rfl, trivial⟩, hb⟩
theorem uX {l : List Int} {n : Nat} (hl : l.length ≤ 100000000) (hn : bT n ≤ 10000000) : Snd Try.prog 10 [.a (.v .u32 l), .a (bA n)] (.a (.b (decide (l = parts n)))) := by
 have c1 := Jn hn; have c2 := NA (b := parts n) hl; refine jl oI mixed Try.func10 Try.ntmps10 rfl (by kernel_rfl) rfl ?_
 repeat (conv => whnf); first | refine fH ?_ | refine fI ?_ | refine ⟨_, c1, ?_⟩ | refine ⟨_, c2, ?_⟩ | refine And.intro (by kernel_rfl) ?_ | refine And.intro (by decide) ?_
 rfl
section
variable {f : Fm} (h : f.ok)
include h
end
theorem WQ : (⟨11, 5⟩ : Fm).ok := .inl rfl
theorem xy : Snd Try.prog 6 [] (.a (.b true)) := by
 have o1 := De 16; have p1 := (Ck WQ (x := 0x3c01) (by decide)).to (r' := .t [.a (.rs [parts 15, parts 1025, parts 0]), .a (.b true)]) (by rw [show exq ⟨11, 5⟩ 0x3c01 = 15 by decide +kernel, show Fm.mg ⟨11, 5⟩ 0x3c01 = 1025 by decide +kernel, show zf ⟨11, 5⟩ 0x3c01 = 0 by decide +kernel]); have p2 := (Ck WQ (x := 0xfc00) (by decide)).to (r' := .t [.a (.rs [parts 31, parts 1024, parts 5]), .a (.b true)]) (by rw [show exq ⟨11, 5⟩ 0xfc00 = 31 by decide +kernel, show Fm.mg ⟨11, 5⟩ 0xfc00 = 1024 by decide +kernel, show zf ⟨11, 5⟩ 0xfc00 = 5 by decide +kernel]); have w1 := oP (n := 15) (by decide) (by decide); have w2 := oP (n := 1025) (by decide) (by decide); have w3 := oP (n := 0) (by decide) (by decide); have w4 := oP (n := 5) (by decide) (by decide); have l1 : (parts 15).length ≤ 100000000 := Nat.le_trans (gL (k := 1) (by decide)) (by decide); have l2 : (parts 1025).length ≤ 100000000 := Nat.le_trans (gL (k := 1) (by decide)) (by decide); have l3 : (parts 0).length ≤ 100000000 := Nat.le_trans (gL (k := 1) (by decide)) (by decide); have l4 : (parts 5).length ≤ 100000000 := Nat.le_trans (gL (k := 1) (by decide)) (by decide); have i1 := (uX (n := 15) l1 (Nat.le_trans (gm (k := 64) (by decide)) (by decide))).to (r' := .a (.b true)) (by rw [decide_eq_true rfl]); have i2 := (uX (n := 1025) l2 (Nat.le_trans (gm (k := 64) (by decide)) (by decide))).to (r' := .a (.b true)) (by rw [decide_eq_true rfl]); have i3 := (uX (n := 0) l3 (Nat.le_trans (gm (k := 64) (by decide)) (by decide))).to (r' := .a (.b true)) (by rw [decide_eq_true rfl]); have i4 := (uX (n := 5) l4 (Nat.le_trans (gm (k := 64) (by decide)) (by decide))).to (r' := .a (.b true)) (by rw [decide_eq_true rfl]); refine jl oI mixed Try.func6 Try.ntmps6 rfl (by kernel_rfl) rfl ?_
 repeat (conv => whnf); first | refine fH ?_ | refine fI ?_ | refine ⟨_, o1, ?_⟩ | refine ⟨_, p1, ?_⟩ | refine ⟨_, p2, ?_⟩ | refine ⟨_, w1, ?_⟩ | refine ⟨_, w2, ?_⟩ | refine ⟨_, w3, ?_⟩ | refine ⟨_, w4, ?_⟩ | refine ⟨_, i1, ?_⟩ | refine ⟨_, i2, ?_⟩ | refine ⟨_, i3, ?_⟩ | refine ⟨_, i4, ?_⟩ | refine And.intro (by kernel_rfl) ?_ | refine And.intro (by decide) ?_
 rfl
end Go.Proofs.Ytkgeihbcikiedaa.A
set_option linter.unusedVariables false
set_option linter.unusedSimpArgs false
set_option linter.constructorNameAsVariable false
set_option linter.unusedSectionVars false
set_option maxRecDepth 100000
set_option maxHeartbeats 8000000
namespace Go.Proofs.Ytkgeihbcikiedaa.A
open Go.RowKit Go.Proofs.Ytkgeihbcikiedaa.P Go.Proofs.YtkgeihbcikiedaaW.PrintWords Go.Proofs.YtkgeihbcikiedaaW.PrintMore Go.Proofs.Ytkgeihbcikiedaa.N Sk Dy
theorem DN {x : Int} (h : (Lit.int .u64 x).wf = true) : ∃ n : Nat, x = n ∧ n < 2 ^ 64 := by
 have := wf_u64 h; exact ⟨x.toNat, by omega, by omega⟩
theorem Gf {n : Nat} (h : n < 2 ^ 64) : (parts n).length ≤ 100000000 := Nat.le_trans (gL (k := 2) (by simpa using h)) (by decide)
theorem wP {n : Nat} (h : n < 2 ^ 64) : Snd Try.prog 11 [.a (uA n)] (.a (bA n)) := by
 have := oP (n := (n : Int)) (by omega) (by omega)
 rwa [Int.toNat_natCast] at this
theorem DR {n : Nat} (h : n < 2 ^ 64) : Snd Try.prog 10 [.a (.v .u32 (parts n)), .a (bA n)] (.a (.b true)) :=
 (uX (n := n) (Gf h) (Nat.le_trans (gm h) (by decide))).to (r' := .a (.b true)) (by rw [decide_eq_true rfl])
section
variable {f : Fm} (h : f.ok)
include h
omit h in
omit h in
end
end Go.Proofs.Ytkgeihbcikiedaa.A
