import Derived.Test.YtlapfomfnmccgaaS23
import Derived.Test.YtlapfomfnmccgaaN47
set_option linter.unusedVariables false
set_option linter.unusedSimpArgs false
set_option linter.constructorNameAsVariable false
set_option linter.unusedSectionVars false
set_option maxRecDepth 100000
set_option maxHeartbeats 8000000
namespace Go.Proofs.Ytlapfomfnmccgaa.A
open Go.RowKit Go.Proofs.Ytlapfomfnmccgaa.P Go.Proofs.YtlapfomfnmccgaaW.PrintWords Go.Proofs.YtlapfomfnmccgaaW.PrintMore Go.Proofs.Ytlapfomfnmccgaa.N Sk Dy
/-! ### The program is awake, to layer 4 -/
theorem natof1_snd : Snd Try.prog 28 [.a (.i .u64 1)] (.a (.v .u32 [1])) := by
  have := of_snd (n := 1) (by omega) (by omega)
  refine this.to ?_
  show AV.a (.v .u32 (parts (Int.toNat 1))) = _
  rw [show parts (Int.toNat 1) = [1] by decide +kernel]
theorem mA_lit {r : Dy × Dy × Int} {n1 n2 : Bool} {m1 m2 : Nat} {l1 l2 : List Int} {e1 e2 m : Int} (h : r = (⟨n1, m1, e1⟩, ⟨n2, m2, e2⟩, m)) (h1 : parts m1 = l1) (h2 : parts m2 = l2) : mA r = .t [.g (dL n1 l1 e1), .g (dL n2 l2 e2), .a (iA m)] := by subst h; subst h1; subst h2; rfl
theorem awake4_snd : Snd Try.prog 9 [] (.a (.b true)) := by
  have o1 : Ok [1] := ok_lit (by decide)
  have o2 : Ok [2049] := ok_lit (by decide)
  have o3 : Ok [65505] := ok_lit (by decide)
  have o4 : Ok [1025] := ok_lit (by decide)
  have o0 : Ok [] := ok_lit (by decide)
  have d1 := of_lit 2049 false 2049 [2049] 0 (by decide) (by decide) (by decide +kernel) (by decide +kernel)
  have d2 := of_lit 65505 false 65505 [65505] 0 (by decide) (by decide) (by decide +kernel) (by decide +kernel)
  have d3 := of_lit 1 false 1 [1] 0 (by decide) (by decide) (by decide +kernel) (by decide +kernel)
  have d4 := of_lit (-2049) true 2049 [2049] 0 (by decide) (by decide) (by decide +kernel) (by decide +kernel)
  have d5 := of_lit (-2048) true 1 [1] 11 (by decide) (by decide) (by decide +kernel) (by decide +kernel)
  have d6 := of_lit (-2050) true 1025 [1025] 1 (by decide) (by decide) (by decide +kernel) (by decide +kernel)
  have t1 := (to_snd ok16 (mode := 0) (ng := false) (e := 0) o2 (by decide) false).to (r' := tA (0x6800, 1, 0)) (by rw [show f16.rto 0 ⟨false, nv [2049], 0⟩ false = (0x6800, 1, 0) by decide +kernel])
  have t2 := (to_snd ok16 (mode := 3) (ng := false) (e := 0) o3 (by decide) false).to (r' := tA (0x7c00, 5, 0)) (by rw [show f16.rto 3 ⟨false, nv [65505], 0⟩ false = (0x7c00, 5, 0) by decide +kernel])
  have t3 := (to_snd ok16 (mode := 2) (ng := true) (e := -30) o1 (by decide) false).to (r' := tA (0x8001, 3, 0)) (by rw [show f16.rto 2 ⟨true, nv [1], -30⟩ false = (0x8001, 3, 0) by decide +kernel])
  have t4 := (to_snd ok16 (mode := 0) (ng := false) (e := 0) o0 (by decide) true).to (r' := tA (0x8000, 0, 0)) (by rw [show f16.rto 0 ⟨false, nv [], 0⟩ true = (0x8000, 0, 0) by decide +kernel])
  have t5 := (to_snd ok16 (mode := 5) (ng := false) (e := 0) o1 (by decide) false).to (r' := tA (0, 0, 1)) (by rw [show f16.rto 5 ⟨false, nv [1], 0⟩ false = (0, 0, 1) by decide +kernel])
  have nb := (neighbours_snd ok16 (ng := true) (e := 0) o2 (by decide)).to (mA_lit (n1 := true) (n2 := true) (m1 := 1) (m2 := 1025) (l1 := [1]) (l2 := [1025]) (e1 := 11) (e2 := 1) (m := 0) (by decide +kernel) (by decide +kernel) (by decide +kernel))
  have s1 := (dsame_snd (na := true) (nb := true) (ea := 11) (eb := 11) o1 o1 (by decide) (by decide)).to (r' := .a (.b true)) (by rw [show Dy.same ⟨true, nv [1], 11⟩ ⟨true, nv [1], 11⟩ = true by decide +kernel])
  have s2 := (dsame_snd (na := true) (nb := true) (ea := 1) (eb := 1) o4 o4 (by decide) (by decide)).to (r' := .a (.b true)) (by rw [show Dy.same ⟨true, nv [1025], 1⟩ ⟨true, nv [1025], 1⟩ = true by decide +kernel])
  have y1 := (tiny_snd ok16 (neg := false) (e := -15) o1 (by decide)).to (r' := .a (.b true)) (by rw [show tiny f16 ⟨false, nv [1], -15⟩ = true by decide +kernel])
  have y2 := (tiny_snd ok16 (neg := false) (e := -14) o1 (by decide)).to (r' := .a (.b false)) (by rw [show tiny f16 ⟨false, nv [1], -14⟩ = false by decide +kernel])
  have b1 := (beyond_snd ok16 1 true).to (r' := .a (uA 0xfbff)) (by rw [show f16.beyond 1 true = 0xfbff by decide +kernel])
  have f1 := fof_snd 16
  refine snd_of ttOk mixed Try.func9 Try.ntmps9 rfl (by kernel_rfl) rfl ?_
  repeat (conv => whnf); first | refine br_tt ?_ | refine br_ff ?_ | refine ⟨_, f1, ?_⟩ | refine ⟨_, d1, ?_⟩ | refine ⟨_, d2, ?_⟩ | refine ⟨_, d3, ?_⟩ | refine ⟨_, d4, ?_⟩ | refine ⟨_, d5, ?_⟩ | refine ⟨_, d6, ?_⟩ | refine ⟨_, t1, ?_⟩ | refine ⟨_, t2, ?_⟩ | refine ⟨_, t3, ?_⟩ | refine ⟨_, t4, ?_⟩ | refine ⟨_, t5, ?_⟩ | refine ⟨_, nb, ?_⟩ | refine ⟨_, s1, ?_⟩ | refine ⟨_, s2, ?_⟩ | refine ⟨_, y1, ?_⟩ | refine ⟨_, y2, ?_⟩ | refine ⟨_, b1, ?_⟩ | refine ⟨_, natof1_snd, ?_⟩ | refine And.intro (by kernel_rfl) ?_ | refine And.intro (by decide) ?_
  rfl
/-! ### The laws RoundTurns and RoundKeeps -/
theorem xorU {m n : Nat} (hm : m < 2 ^ 64) (hn : n < 2 ^ 64) : IntKind.wrap .u64 (((BitVec.ofInt (IntKind.bits .u64) (m : Int) ^^^ BitVec.ofInt (IntKind.bits .u64) (n : Int)).toNat : Nat) : Int) = ((m ^^^ n : Nat) : Int) := uN_xor hm hn
theorem few_nv {l : List Int} (h : Ok l) {k : Nat} (hl : l.length ≤ k) : nlen (nv l) ≤ 32 * k := by have := nlen_nv h; omega
abbrev andI (x y : Int) : Int := IntKind.wrap .i64 (((BitVec.ofInt (IntKind.bits .i64) x &&& BitVec.ofInt (IntKind.bits .i64) y).toNat : Nat) : Int)
theorem ov_t : (andI 5 4 != 0) = true := by decide +kernel
theorem ov_f {F : Int} (h : F = 0 ∨ F = 1 ∨ F = 3) : (andI F 4 != 0) = false := by rcases h with rfl | rfl | rfl <;> decide +kernel
theorem flag_tri {F : Int} (h : F = 0 ∨ F = 1 ∨ F = 3 ∨ F = 5) : ((andI F 4 == 0) = true ∧ (andI F 2 == 0) = true) ∨ ((andI F 4 == 0) = true ∧ (andI F 2 == 0) = false ∧ (F == 3) = true) ∨ ((andI F 4 == 0) = false ∧ (andI F 1 != 0) = true ∧ (andI F 2 == 0) = true) := by
  rcases h with rfl | rfl | rfl | rfl <;> decide +kernel
theorem roundTurns_law (bits mode : Int) (ng : Bool) (l : List Int) (e : Int) (hbits : (Lit.int .i64 bits).wf = true) (hmode : (Lit.int .i64 mode).wf = true) (hw : ∀ y ∈ l, (Lit.int .u32 y).wf = true) (hy : l.length * 4 ≤ 140737488351232) (he : (Lit.int .i64 e).wf = true) :
    Snd Try.prog 4 [.a (iA bits), .a (iA mode), .g (dL ng l e)] (.a (.b true)) := by
  have ho := ok_of_wf hw
  have o1 := fof_snd bits
  refine snd_of ttOk mixed Try.func4 Try.ntmps4 rfl (by kernel_rfl) rfl ?_
  cases hf : fmOf bits with
  | none =>
    rw [hf] at o1
    repeat (conv => whnf); first | refine br_tt ?_ | refine br_ff ?_ | refine ⟨_, awake4_snd, ?_⟩ | refine ⟨_, o1, ?_⟩ | refine And.intro (by kernel_rfl) ?_ | refine And.intro (by decide) ?_
    rfl
  | some f =>
  rw [hf] at o1
  obtain ⟨h, hbt⟩ := fmOf_ok hf
  by_cases m1 : mode < 0
  · have z1 := decide_eq_true m1
    repeat (conv => whnf); first | refine br_tt ?_ | refine br_ff ?_ | refine ⟨_, awake4_snd, ?_⟩ | refine ⟨_, o1, ?_⟩ | refine br_t z1 ?_ | refine And.intro (by kernel_rfl) ?_ | refine And.intro (by decide) ?_
    rfl
  have z1 := decide_eq_false m1
  by_cases m2 : mode ≥ 5
  · have z2 := decide_eq_true m2
    repeat (conv => whnf); first | refine br_tt ?_ | refine br_ff ?_ | refine ⟨_, awake4_snd, ?_⟩ | refine ⟨_, o1, ?_⟩ | refine br_f z1 ?_ | refine br_t z2 ?_ | refine And.intro (by kernel_rfl) ?_ | refine And.intro (by decide) ?_
    rfl
  have z2 := decide_eq_false m2
  by_cases m3 : (l.length : Int) > 40
  · have z3 := decide_eq_true m3
    repeat (conv => whnf); first | refine br_tt ?_ | refine br_ff ?_ | refine ⟨_, awake4_snd, ?_⟩ | refine ⟨_, o1, ?_⟩ | refine br_f z1 ?_ | refine br_f z2 ?_ | refine br_t z3 ?_ | refine And.intro (by kernel_rfl) ?_ | refine And.intro (by decide) ?_
    rfl
  have z3 := decide_eq_false m3
  by_cases m4 : e < -1200
  · have z4 := decide_eq_true m4
    repeat (conv => whnf); first | refine br_tt ?_ | refine br_ff ?_ | refine ⟨_, awake4_snd, ?_⟩ | refine ⟨_, o1, ?_⟩ | refine br_f z1 ?_ | refine br_f z2 ?_ | refine br_f z3 ?_ | refine br_t z4 ?_ | refine And.intro (by kernel_rfl) ?_ | refine And.intro (by decide) ?_
    rfl
  have z4 := decide_eq_false m4
  by_cases m5 : e > 1100
  · have z5 := decide_eq_true m5
    repeat (conv => whnf); first | refine br_tt ?_ | refine br_ff ?_ | refine ⟨_, awake4_snd, ?_⟩ | refine ⟨_, o1, ?_⟩ | refine br_f z1 ?_ | refine br_f z2 ?_ | refine br_f z3 ?_ | refine br_f z4 ?_ | refine br_t z5 ?_ | refine And.intro (by kernel_rfl) ?_ | refine And.intro (by decide) ?_
    rfl
  have z5 := decide_eq_false m5
  have cl := len_snd ho (by omega)
  have z6 := beq_len0 (n := nv l)
  by_cases m6 : nv l = 0
  · rw [decide_eq_true m6] at z6
    repeat (conv => whnf); first | refine br_tt ?_ | refine br_ff ?_ | refine ⟨_, awake4_snd, ?_⟩ | refine ⟨_, o1, ?_⟩ | refine ⟨_, cl, ?_⟩ | refine br_f z1 ?_ | refine br_f z2 ?_ | refine br_f z3 ?_ | refine br_f z4 ?_ | refine br_f z5 ?_ | refine br_t z6 ?_ | refine And.intro (by kernel_rfl) ?_ | refine And.intro (by decide) ?_
    rfl
  rw [decide_eq_false m6] at z6
  have hn := few_nv ho (k := 40) (by omega)
  have ra : rmay ⟨ng, nv l, e⟩ = true := rmay_of (by dsimp only; omega) (by dsimp only; omega) (by dsimp only; omega)
  have rb : rmay (turned ⟨ng, nv l, e⟩) = true := rmay_of (a := turned ⟨ng, nv l, e⟩) (by show nlen (nv l) ≤ 4000; omega) (by show -8192 ≤ e; omega) (by show e ≤ 3900; omega)
  obtain ⟨b, c, F, e1, e2, hx, hb, hc, hF⟩ := Fm.turns h (mode := mode) (by omega) ra rb m6 false false
  have c1 := to_snd h (mode := mode) (ng := ng) (e := e) ho (by omega) false
  rw [e1] at c1
  have c2 := to_snd h (mode := oth mode) (ng := !ng) (e := e) ho (by omega) false
  rw [show f.rto (oth mode) ⟨!ng, nv l, e⟩ false = (c, F, 0) from e2] at c2
  have c3 := fnought_snd h true
  have x1 : (IntKind.wrap .u64 (((BitVec.ofInt (IntKind.bits .u64) (b : Int) ^^^ BitVec.ofInt (IntKind.bits .u64) (c : Int)).toNat : Nat) : Int) == ((f.bld true 0 0 : Nat) : Int)) = true := by rw [xorU hb hc, hx, beq_self_eq_true]
  by_cases k2 : mode = 2
  · subst k2
    rw [show oth 2 = 3 from rfl] at c2
    rcases flag_tri hF with ⟨w4, w2⟩ | ⟨w4, w2, w3⟩ | ⟨w4, w1, w2⟩
    . repeat (conv => whnf); first | refine br_tt ?_ | refine br_ff ?_ | refine ⟨_, awake4_snd, ?_⟩ | refine ⟨_, o1, ?_⟩ | refine ⟨_, cl, ?_⟩ | refine ⟨_, c1, ?_⟩ | refine ⟨_, c2, ?_⟩ | refine ⟨_, c3, ?_⟩ | refine br_f z1 ?_ | refine br_f z2 ?_ | refine br_f z3 ?_ | refine br_f z4 ?_ | refine br_f z5 ?_ | refine br_f z6 ?_ | refine br_t x1 ?_ | refine br_t (beq_self_eq_true _) ?_ | refine br_t w4 ?_ | refine br_t w2 ?_ | refine And.intro (by kernel_rfl) ?_ | refine And.intro (by decide) ?_
      rfl
    . repeat (conv => whnf); first | refine br_tt ?_ | refine br_ff ?_ | refine ⟨_, awake4_snd, ?_⟩ | refine ⟨_, o1, ?_⟩ | refine ⟨_, cl, ?_⟩ | refine ⟨_, c1, ?_⟩ | refine ⟨_, c2, ?_⟩ | refine ⟨_, c3, ?_⟩ | refine br_f z1 ?_ | refine br_f z2 ?_ | refine br_f z3 ?_ | refine br_f z4 ?_ | refine br_f z5 ?_ | refine br_f z6 ?_ | refine br_t x1 ?_ | refine br_t (beq_self_eq_true _) ?_ | refine br_t w4 ?_ | refine br_f w2 ?_ | refine br_t w3 ?_ | refine And.intro (by kernel_rfl) ?_ | refine And.intro (by decide) ?_
      exact congrArg (fun b => AV.a (.b b)) w3
    . repeat (conv => whnf); first | refine br_tt ?_ | refine br_ff ?_ | refine ⟨_, awake4_snd, ?_⟩ | refine ⟨_, o1, ?_⟩ | refine ⟨_, cl, ?_⟩ | refine ⟨_, c1, ?_⟩ | refine ⟨_, c2, ?_⟩ | refine ⟨_, c3, ?_⟩ | refine br_f z1 ?_ | refine br_f z2 ?_ | refine br_f z3 ?_ | refine br_f z4 ?_ | refine br_f z5 ?_ | refine br_f z6 ?_ | refine br_t x1 ?_ | refine br_t (beq_self_eq_true _) ?_ | refine br_f w4 ?_ | refine br_t w1 ?_ | refine br_t w2 ?_ | refine And.intro (by kernel_rfl) ?_ | refine And.intro (by decide) ?_
      rfl
  have y2 : (mode == 2) = false := by rw [beq_eq_false_iff_ne]; exact k2
  by_cases k3 : mode = 3
  · subst k3
    rw [show oth 3 = 2 from rfl] at c2
    rcases flag_tri hF with ⟨w4, w2⟩ | ⟨w4, w2, w3⟩ | ⟨w4, w1, w2⟩
    . repeat (conv => whnf); first | refine br_tt ?_ | refine br_ff ?_ | refine ⟨_, awake4_snd, ?_⟩ | refine ⟨_, o1, ?_⟩ | refine ⟨_, cl, ?_⟩ | refine ⟨_, c1, ?_⟩ | refine ⟨_, c2, ?_⟩ | refine ⟨_, c3, ?_⟩ | refine br_f z1 ?_ | refine br_f z2 ?_ | refine br_f z3 ?_ | refine br_f z4 ?_ | refine br_f z5 ?_ | refine br_f z6 ?_ | refine br_t x1 ?_ | refine br_t (beq_self_eq_true _) ?_ | refine br_t w4 ?_ | refine br_t w2 ?_ | refine And.intro (by kernel_rfl) ?_ | refine And.intro (by decide) ?_
      rfl
    . repeat (conv => whnf); first | refine br_tt ?_ | refine br_ff ?_ | refine ⟨_, awake4_snd, ?_⟩ | refine ⟨_, o1, ?_⟩ | refine ⟨_, cl, ?_⟩ | refine ⟨_, c1, ?_⟩ | refine ⟨_, c2, ?_⟩ | refine ⟨_, c3, ?_⟩ | refine br_f z1 ?_ | refine br_f z2 ?_ | refine br_f z3 ?_ | refine br_f z4 ?_ | refine br_f z5 ?_ | refine br_f z6 ?_ | refine br_t x1 ?_ | refine br_t (beq_self_eq_true _) ?_ | refine br_t w4 ?_ | refine br_f w2 ?_ | refine br_t w3 ?_ | refine And.intro (by kernel_rfl) ?_ | refine And.intro (by decide) ?_
      exact congrArg (fun b => AV.a (.b b)) w3
    . repeat (conv => whnf); first | refine br_tt ?_ | refine br_ff ?_ | refine ⟨_, awake4_snd, ?_⟩ | refine ⟨_, o1, ?_⟩ | refine ⟨_, cl, ?_⟩ | refine ⟨_, c1, ?_⟩ | refine ⟨_, c2, ?_⟩ | refine ⟨_, c3, ?_⟩ | refine br_f z1 ?_ | refine br_f z2 ?_ | refine br_f z3 ?_ | refine br_f z4 ?_ | refine br_f z5 ?_ | refine br_f z6 ?_ | refine br_t x1 ?_ | refine br_t (beq_self_eq_true _) ?_ | refine br_f w4 ?_ | refine br_t w1 ?_ | refine br_t w2 ?_ | refine And.intro (by kernel_rfl) ?_ | refine And.intro (by decide) ?_
      rfl
  have y3 : (mode == 3) = false := by rw [beq_eq_false_iff_ne]; exact k3
  rw [show oth mode = mode by unfold oth; rw [if_neg k2, if_neg k3]] at c2
  rcases flag_tri hF with ⟨w4, w2⟩ | ⟨w4, w2, w3⟩ | ⟨w4, w1, w2⟩
  . repeat (conv => whnf); first | refine br_tt ?_ | refine br_ff ?_ | refine ⟨_, awake4_snd, ?_⟩ | refine ⟨_, o1, ?_⟩ | refine ⟨_, cl, ?_⟩ | refine ⟨_, c1, ?_⟩ | refine ⟨_, c2, ?_⟩ | refine ⟨_, c3, ?_⟩ | refine br_f z1 ?_ | refine br_f z2 ?_ | refine br_f z3 ?_ | refine br_f z4 ?_ | refine br_f z5 ?_ | refine br_f z6 ?_ | refine br_t x1 ?_ | refine br_t (beq_self_eq_true _) ?_ | refine br_f y2 ?_ | refine br_f y3 ?_ | refine br_t w4 ?_ | refine br_t w2 ?_ | refine And.intro (by kernel_rfl) ?_ | refine And.intro (by decide) ?_
    rfl
  . repeat (conv => whnf); first | refine br_tt ?_ | refine br_ff ?_ | refine ⟨_, awake4_snd, ?_⟩ | refine ⟨_, o1, ?_⟩ | refine ⟨_, cl, ?_⟩ | refine ⟨_, c1, ?_⟩ | refine ⟨_, c2, ?_⟩ | refine ⟨_, c3, ?_⟩ | refine br_f z1 ?_ | refine br_f z2 ?_ | refine br_f z3 ?_ | refine br_f z4 ?_ | refine br_f z5 ?_ | refine br_f z6 ?_ | refine br_t x1 ?_ | refine br_t (beq_self_eq_true _) ?_ | refine br_f y2 ?_ | refine br_f y3 ?_ | refine br_t w4 ?_ | refine br_f w2 ?_ | refine br_t w3 ?_ | refine And.intro (by kernel_rfl) ?_ | refine And.intro (by decide) ?_
    exact congrArg (fun b => AV.a (.b b)) w3
  . repeat (conv => whnf); first | refine br_tt ?_ | refine br_ff ?_ | refine ⟨_, awake4_snd, ?_⟩ | refine ⟨_, o1, ?_⟩ | refine ⟨_, cl, ?_⟩ | refine ⟨_, c1, ?_⟩ | refine ⟨_, c2, ?_⟩ | refine ⟨_, c3, ?_⟩ | refine br_f z1 ?_ | refine br_f z2 ?_ | refine br_f z3 ?_ | refine br_f z4 ?_ | refine br_f z5 ?_ | refine br_f z6 ?_ | refine br_t x1 ?_ | refine br_t (beq_self_eq_true _) ?_ | refine br_f y2 ?_ | refine br_f y3 ?_ | refine br_f w4 ?_ | refine br_t w1 ?_ | refine br_t w2 ?_ | refine And.intro (by kernel_rfl) ?_ | refine And.intro (by decide) ?_
    rfl
theorem roundKeeps_law (bits x : Int) (hbits : (Lit.int .i64 bits).wf = true) (hx : (Lit.int .u64 x).wf = true) :
    Snd Try.prog 5 [.a (iA bits), .a (.i .u64 x)] (.a (.b true)) := by
  obtain ⟨b, rfl, hb⟩ := u64_nat hx
  have o1 := fof_snd bits
  refine snd_of ttOk mixed Try.func5 Try.ntmps5 rfl (by kernel_rfl) rfl ?_
  cases hf : fmOf bits with
  | none =>
    rw [hf] at o1
    repeat (conv => whnf); first | refine br_tt ?_ | refine br_ff ?_ | refine ⟨_, awake4_snd, ?_⟩ | refine ⟨_, o1, ?_⟩ | refine And.intro (by kernel_rfl) ?_ | refine And.intro (by decide) ?_
    rfl
  | some f =>
  rw [hf] at o1
  obtain ⟨h, hbt⟩ := fmOf_ok hf
  have c1 := fval_snd h hb
  rcases Fm.val_cases (f := f) b with ⟨hv, hc⟩ | ⟨hv, _, hc⟩ | ⟨hv, hbl, hc⟩
  · rw [hv, rA_zero'] at c1
    repeat (conv => whnf); first | refine br_tt ?_ | refine br_ff ?_ | refine ⟨_, awake4_snd, ?_⟩ | refine ⟨_, o1, ?_⟩ | refine ⟨_, c1, ?_⟩ | refine And.intro (by kernel_rfl) ?_ | refine And.intro (by decide) ?_
    rfl
  · rw [hv, rA_zero'] at c1
    repeat (conv => whnf); first | refine br_tt ?_ | refine br_ff ?_ | refine ⟨_, awake4_snd, ?_⟩ | refine ⟨_, o1, ?_⟩ | refine ⟨_, c1, ?_⟩ | refine And.intro (by kernel_rfl) ?_ | refine And.intro (by decide) ?_
    rfl
  rw [hv] at c1
  have c2 := fneg_snd h hb
  have fw : Few (f.raw b).plain.n := by have := Fm.val_nlen h b; rw [hv] at this; show nlen _ ≤ 31000; dsimp only at this; omega
  have k : ∀ mode : Int, 0 ≤ mode ∧ mode < 5 → Snd Try.prog 19 [.g (fmA f), .a (iA mode), .g (dA (f.raw b).plain), .a (.b (f.sn b))] (tA (b, 0, 0)) := by
    intro mode hm
    have := to_snd' h (mode := mode) fw (f.sn b)
    rwa [Fm.keeps h hbl hc hm] at this
  have k0 := k 0 (by omega)
  have k1 := k 1 (by omega)
  have k2 := k 2 (by omega)
  have k3 := k 3 (by omega)
  have k4 := k 4 (by omega)
  have yb : (((b : Nat) : Int) != ((b : Nat) : Int)) = false := bne_self_eq_false _
  repeat (conv => whnf); first | refine ⟨7, ?_⟩ | refine br_tt ?_ | refine br_ff ?_ | refine ⟨_, awake4_snd, ?_⟩ | refine ⟨_, o1, ?_⟩ | refine ⟨_, c1, ?_⟩ | refine ⟨_, c2, ?_⟩ | refine ⟨_, k0, ?_⟩ | refine ⟨_, k1, ?_⟩ | refine ⟨_, k2, ?_⟩ | refine ⟨_, k3, ?_⟩ | refine ⟨_, k4, ?_⟩ | refine br_f yb ?_ | refine And.intro (by kernel_rfl) ?_ | refine And.intro (by decide) ?_
  rfl
end Go.Proofs.Ytlapfomfnmccgaa.A
