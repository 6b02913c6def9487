/- The contracts of dyad's functions that are used here, for all numbers of at most a thousand parts. -/
import Derived.Test.YtkgeihbcikiedaaS0
import Derived.Test.YtkgeihbcikiedaaN21
set_option linter.unusedVariables false
set_option linter.unusedSimpArgs false
set_option linter.constructorNameAsVariable false
set_option maxRecDepth 100000
set_option maxHeartbeats 4000000
namespace Go.Proofs.Ytkgeihbcikiedaa.A
open Go.RowKit Go.Proofs.Ytkgeihbcikiedaa.P Go.Proofs.YtkgeihbcikiedaaW.PrintWords Go.Proofs.YtkgeihbcikiedaaW.PrintMore Go.Proofs.Ytkgeihbcikiedaa.N Sk
abbrev dA (d : Dy) : List AA := [.b d.neg, nA d.n, iA d.e]
abbrev dL (neg : Bool) (l : List Int) (e : Int) : List AA := [.b neg, .v .u32 l, iA e]
theorem JP (e : Int) : Snd Try.prog 90 [.a (iA e)] (.a (.b (decide (-8192 ≤ e) && decide (e ≤ 8192)))) := by
 refine gD kN mixed Try.func90 Try.ntmps90 rfl (by kernel_rfl) rfl ?_
 by_cases h1 : -8192 ≤ e
 ·rw [decide_eq_true h1]; have h1 := decide_eq_true h1; refine iU h1 ?_; refine iU h1 ?_; refine iU h1 ?_; exact ⟨rfl, rfl⟩
 ·rw [decide_eq_false h1]; have h1 := decide_eq_false h1; refine fJ h1 ?_; refine fJ h1 ?_; refine fJ h1 ?_; exact ⟨rfl, rfl⟩
theorem D8 {neg : Bool} {l : List Int} {e : Int} (h : Ok l) (hl : l.length ≤ 100000) : Snd Try.prog 79 [.g (dL neg l e)] (.a (.b (Dy.may ⟨neg, nv l, e⟩))) := by
 refine gD kN mixed Try.func79 Try.ntmps79 rfl (by kernel_rfl) rfl ?_; refine ⟨_, D9 h hl, ?_⟩; unfold Dy.may
 by_cases h1 : bu (nv l) ≤ 4096
 ·have h2 : decide ((bu (nv l) : Int) ≤ 4096) = true := decide_eq_true (by omega); rw [decide_eq_true h1, Bool.true_and]
  repeat (conv => whnf); first | refine dO ?_ | refine dP ?_ | refine iU h2 ?_ | refine ⟨_, JP e, ?_⟩
  exact ⟨rfl, rfl⟩
 ·have h2 : decide ((bu (nv l) : Int) ≤ 4096) = false := decide_eq_false (by omega); rw [decide_eq_false h1, Bool.false_and]
  repeat (conv => whnf); first | refine dO ?_ | refine dP ?_ | refine fJ h2 ?_
  exact ⟨rfl, rfl⟩
theorem oJ {neg : Bool} {l : List Int} {e : Int} (h : Ok l) (hl : l.length ≤ 1000) (he : Exs e) : Snd Try.prog 80 [.g (dL neg l e)] (.g (dA (Dy.plain ⟨neg, nv l, e⟩))) := by
 refine gD kN mixed Try.func80 Try.ntmps80 rfl (by kernel_rfl) rfl ?_; refine ⟨_, D9 h (by omega), ?_⟩
 by_cases h0 : nv l = 0
 ·have h1 : ((bu (nv l) : Int) == 0) = true := by rw [h0, gq]; rfl
  rw [fB (a := ⟨neg, nv l, e⟩) h0]
  repeat (conv => whnf); first | refine dO ?_ | refine dP ?_ | refine iU h1 ?_
  refine ⟨rfl, ?_⟩; show AV.g [.b false, .v .u32 [], .i .i64 0] = AV.g [.b false, .v .u32 (parts 0), .i .i64 0]; rw [gZ]
 ·have hz := iL (n := nv l); have ht := jV h0; have hn := xL h
  have h1 : ((bu (nv l) : Int) == 0) = false := by rw [beq_eq_false_iff_ne]; omega
  unfold Exs at he
  repeat (conv => whnf); first | refine dO ?_ | refine dP ?_ | refine fJ h1 ?_
  refine ⟨_, Ov h (by omega), ?_⟩; refine ⟨_, Ow h (by omega) _, ?_⟩; refine ⟨rfl, ?_⟩; rw [gL (a := ⟨neg, nv l, e⟩) h0]; show AV.g [.b neg, nA (zG (nv l) (tz (nv l) : Nat)), iA (IntKind.wrap .i64 (e + (tz (nv l) : Nat)))] = _; rw [wI (by omega) (by omega)]; unfold zG; rw [Int.toNat_natCast]
abbrev Few (n : Nat) : Prop := bu n ≤ 31000
theorem jL {n : Nat} (h : Few n) : Ok (parts n) ∧ (parts n).length ≤ 1000 := ⟨(FD h).ok, (FD h).len⟩
theorem uV {n : Nat} (h : Few n) : Snd Try.prog 81 [.a (nA n)] (.a (iA (bu n))) := by
 have := D9 (jL h).1 (by have := (jL h).2; omega)
 rwa [gH] at this
theorem Ck {d : Dy} (h : Few d.n) : Few d.plain.n := Nat.le_trans (jJ d) h
end Go.Proofs.Ytkgeihbcikiedaa.A
set_option linter.unusedVariables false
set_option linter.unusedSimpArgs false
set_option linter.constructorNameAsVariable false
set_option maxRecDepth 100000
set_option maxHeartbeats 4000000
namespace Go.Proofs.Ytkgeihbcikiedaa.A
open Go.RowKit Go.Proofs.Ytkgeihbcikiedaa.P Go.Proofs.YtkgeihbcikiedaaW.PrintWords Go.Proofs.YtkgeihbcikiedaaW.PrintMore Go.Proofs.Ytkgeihbcikiedaa.N Sk Dy
theorem uW {n : Nat} : ((bu n : Int) == 0) = decide (n = 0) := by
 by_cases h : n = 0
 ·subst h; rw [gq]; rfl
 ·rw [decide_eq_false h, beq_eq_false_iff_ne]; have := iL (n := n); omega
theorem ZJ (x y : Int) : (if y < x then y else x) = min x y := by split <;> omega
theorem xn {a : Dy} (h : Exs a.e) (hl : bu a.n ≤ 31000) : -100000 ≤ a.plain.e ∧ a.plain.e ≤ 131000 := by
 unfold Exs at h
 by_cases h0 : a.n = 0
 ·rw [fB h0]; exact ⟨by show _ ≤ (0 : Int); omega, by show (0 : Int) ≤ _; omega⟩
 ·have h3 := jV h0; rw [gL h0]; dsimp only; omega
theorem Vq : dA Dy.zero = [.b false, .v .u32 [], .i .i64 0] := by show [AA.b false, .v .u32 (parts 0), .i .i64 0] = _; rw [gZ]
section
variable {la lb : List Int} {na nb : Bool} {ea eb : Int} {a b : Dy}
theorem Cm {n : Nat} (h : Few n) {k : Int} (h0 : 0 ≤ k) (h1 : bu n + k ≤ 16384) (h2 : k ≤ 16384) : Snd Try.prog 93 [.a (nA n), .a (iA k)] (.t [.a (nA (n * 2 ^ k.toNat)), .a (iA 0)]) := by
 have := QI (jL h).1 (by have := (jL h).2; omega) k (by omega) (by omega); rw [gH] at this; unfold Gl at this; rw [if_neg (by omega), if_neg (by omega)] at this; exact this
theorem Ox (ha : Ok la) (hb : Ok lb) (hla : la.length ≤ 1000) (hlb : lb.length ≤ 1000) (ea' : a = ⟨na, nv la, ea⟩) (eb' : b = ⟨nb, nv lb, eb⟩) (xa : Exs ea) (xb : Exs eb)
 (la' : bu a.n ≤ 16000) (lb' : bu b.n ≤ 16000)
 (hr : a.plain.n ≠ 0 → b.plain.n ≠ 0 → (bu a.plain.n : Int) + (a.plain.e - min a.plain.e b.plain.e) ≤ 16384 ∧ (bu b.plain.n : Int) + (b.plain.e - min a.plain.e b.plain.e) ≤ 16384) :
 Snd Try.prog 82 [.g (dL na la ea), .g (dL nb lb eb)] (.t [.a (nA (lev a b).1), .a (nA (lev a b).2.1), .a (iA (lev a b).2.2)]) := by
 have pa := oJ (neg := na) (e := ea) ha hla xa; have pb := oJ (neg := nb) (e := eb) hb hlb xb; rw [← ea'] at pa; rw [← eb'] at pb; have fa := Ck (show Few a.n by show bu _ ≤ 31000; omega); have fb := Ck (show Few b.n by show bu _ ≤ 31000; omega); have l1 := uV fa; have l2 := uV fb; have pl1 := jJ a; have pl2 := jJ b; refine gD kN mixed Try.func82 Try.ntmps82 rfl (by kernel_rfl) rfl ?_; have z1 := uW (n := a.plain.n); have z2 := uW (n := b.plain.n); unfold lev
 by_cases h1 : a.plain.n = 0
 ·rw [decide_eq_true h1] at z1
  repeat (conv => whnf); first | refine dO ?_ | refine dP ?_ | refine iU z1 ?_ | refine ⟨_, pa, ?_⟩ | refine ⟨_, pb, ?_⟩ | refine ⟨_, l1, ?_⟩ | refine And.intro (by kernel_rfl) ?_
  rw [if_pos h1]; show AV.t [.a (.v .u32 []), .a (nA b.plain.n), .a (iA b.plain.e)] = AV.t [.a (.v .u32 (parts 0)), .a (nA b.plain.n), .a (iA b.plain.e)]; rw [gZ]
 rw [decide_eq_false h1] at z1; rw [if_neg h1]
 by_cases h2 : b.plain.n = 0
 ·rw [decide_eq_true h2] at z2
  repeat (conv => whnf); first | refine dO ?_ | refine dP ?_ | refine fJ z1 ?_ | refine iU z2 ?_ | refine ⟨_, pa, ?_⟩ | refine ⟨_, pb, ?_⟩ | refine ⟨_, l1, ?_⟩ | refine ⟨_, l2, ?_⟩ | refine And.intro (by kernel_rfl) ?_
  rw [if_pos h2]; show AV.t [.a (nA a.plain.n), .a (.v .u32 []), .a (iA a.plain.e)] = AV.t [.a (nA a.plain.n), .a (.v .u32 (parts 0)), .a (iA a.plain.e)]; rw [gZ]
 rw [decide_eq_false h2] at z2; rw [if_neg h2]; obtain ⟨r1, r2⟩ := hr h1 h2; have sa := xn (a := a) (by rw [ea']; exact xa) (by omega); have sb := xn (a := b) (by rw [eb']; exact xb) (by omega); have c1 := Cm fa (k := a.plain.e - min a.plain.e b.plain.e) (by omega) (by omega) (by omega); have c2 := Cm fb (k := b.plain.e - min a.plain.e b.plain.e) (by omega) (by omega) (by omega)
 have w1 : IntKind.wrap .i64 (a.plain.e - (if b.plain.e < a.plain.e then b.plain.e else a.plain.e)) = a.plain.e - min a.plain.e b.plain.e := by rw [ZJ, wI (by omega) (by omega)]
 have w2 : IntKind.wrap .i64 (b.plain.e - (if b.plain.e < a.plain.e then b.plain.e else a.plain.e)) = b.plain.e - min a.plain.e b.plain.e := by rw [ZJ, wI (by omega) (by omega)]
 rw [← w1] at c1; rw [← w2] at c2
 repeat (conv => whnf); first | refine dO ?_ | refine dP ?_ | refine fJ z1 ?_ | refine fJ z2 ?_ | refine ⟨_, pa, ?_⟩ | refine ⟨_, pb, ?_⟩ | refine ⟨_, l1, ?_⟩ | refine ⟨_, l2, ?_⟩ | refine ⟨_, c1, ?_⟩ | refine ⟨_, c2, ?_⟩ | refine And.intro (by kernel_rfl) ?_
 show AV.t [.a (nA (a.plain.n * 2 ^ (IntKind.wrap .i64 (a.plain.e - (if b.plain.e < a.plain.e then b.plain.e else a.plain.e))).toNat)), .a (nA (b.plain.n * 2 ^ (IntKind.wrap .i64 (b.plain.e - (if b.plain.e < a.plain.e then b.plain.e else a.plain.e))).toNat)), .a (iA (if b.plain.e < a.plain.e then b.plain.e else a.plain.e))] = _; rw [w1, w2, ZJ]; rfl
end
end Go.Proofs.Ytkgeihbcikiedaa.A
set_option linter.unusedVariables false
set_option linter.unusedSimpArgs false
set_option linter.constructorNameAsVariable false
set_option maxRecDepth 100000
set_option maxHeartbeats 4000000
namespace Go.Proofs.Ytkgeihbcikiedaa.A
open Go.RowKit Go.Proofs.Ytkgeihbcikiedaa.P Go.Proofs.YtkgeihbcikiedaaW.PrintWords Go.Proofs.YtkgeihbcikiedaaW.PrintMore Go.Proofs.Ytkgeihbcikiedaa.N Sk Dy
section
variable {la lb : List Int} {na nb : Bool} {ea eb : Int} {a b : Dy}
theorem QJ {m n : Nat} (hm : Few m) (hn : Few n) : Snd Try.prog 83 [.a (nA m), .a (nA n)] (.a (iA (sg m n))) := by
 have := Vr (jL hm).1 (jL hn).1 (by have := (jL hm).2; omega) (by have := (jL hn).2; omega); rw [gH, gH] at this; exact this
abbrev rA (r : Dy × Int) : AV := .t [.g (dA r.1), .a (iA r.2)]
theorem yf (m : Int) : rA (Dy.zero, m) = .t [.g [.b false, .v .u32 [], .i .i64 0], .a (iA m)] := by show AV.t [.g (dA Dy.zero), _] = _; rw [Vq]
theorem JQ (ha : Ok la) (hla : la.length ≤ 1000) : Snd Try.prog 56 [.g (dL na la ea)] (rA (if Dy.may ⟨na, nv la, ea⟩ = true then (Dy.plain ⟨na, nv la, ea⟩, 0) else (Dy.zero, 3))) := by
 have va := D8 (neg := na) (e := ea) ha (by omega); refine gD kN mixed Try.func56 Try.ntmps56 rfl (by kernel_rfl) rfl ?_
 by_cases h : Dy.may ⟨na, nv la, ea⟩ = true
 ·have c := oJ (neg := na) ha hla (Dn h); rw [if_pos h]; rw [h] at va
  repeat (conv => whnf); first | refine dO ?_ | refine dP ?_ | refine ⟨_, va, ?_⟩ | refine ⟨_, c, ?_⟩ | refine And.intro (by kernel_rfl) ?_
  rfl
 ·rw [if_neg h, yf]; rw [Bool.not_eq_true] at h; rw [h] at va
  repeat (conv => whnf); first | refine dO ?_ | refine dP ?_ | refine ⟨_, va, ?_⟩ | refine And.intro (by kernel_rfl) ?_
  rfl
end
end Go.Proofs.Ytkgeihbcikiedaa.A
set_option linter.unusedVariables false
set_option linter.unusedSimpArgs false
set_option linter.constructorNameAsVariable false
set_option maxRecDepth 100000
set_option maxHeartbeats 4000000
namespace Go.Proofs.Ytkgeihbcikiedaa.A
open Go.RowKit Go.Proofs.Ytkgeihbcikiedaa.P Go.Proofs.YtkgeihbcikiedaaW.PrintWords Go.Proofs.YtkgeihbcikiedaaW.PrintMore Go.Proofs.Ytkgeihbcikiedaa.N Sk Dy
section
variable {la lb : List Int} {na nb : Bool} {ea eb : Int} {a b : Dy}
abbrev cA (r : Int × Int) : AV := .t [.a (iA r.1), .a (iA r.2)]
theorem GD {x y m : Int} (h : x = y) : cA (x, m) = cA (y, m) := by rw [h]
theorem QK (ha : Ok la) (hb : Ok lb) (hla : la.length ≤ 1000) (hlb : lb.length ≤ 1000) : Snd Try.prog 61 [.g (dL na la ea), .g (dL nb lb eb)] (cA (Dy.cmp ⟨na, nv la, ea⟩ ⟨nb, nv lb, eb⟩)) := by
 obtain ⟨a, ea'⟩ : ∃ a, a = (⟨na, nv la, ea⟩ : Dy) := ⟨_, rfl⟩
 obtain ⟨b, eb'⟩ : ∃ b, b = (⟨nb, nv lb, eb⟩ : Dy) := ⟨_, rfl⟩
 have va := D8 (neg := na) (e := ea) ha (by omega); have vb := D8 (neg := nb) (e := eb) hb (by omega); rw [← ea'] at va; rw [← eb'] at vb; rw [← ea', ← eb']; refine gD kN mixed Try.func61 Try.ntmps61 rfl (by kernel_rfl) rfl ?_
 by_cases ma : a.may = true
 case neg =>
  rw [Bool.not_eq_true] at ma; have e1 : Dy.cmp a b = (0, 3) := if_neg (fun h => by rw [ma] at h; exact absurd h.1 (by simp)); rw [e1]; rw [ma] at va
  repeat (conv => whnf); first | refine dO ?_ | refine dP ?_ | refine ⟨_, va, ?_⟩ | refine And.intro (by kernel_rfl) ?_
  rfl
 by_cases mb : b.may = true
 case neg =>
  rw [Bool.not_eq_true] at mb; have e1 : Dy.cmp a b = (0, 3) := if_neg (fun h => by rw [mb] at h; exact absurd h.2 (by simp)); rw [e1]; rw [ma] at va; rw [mb] at vb
  repeat (conv => whnf); first | refine dO ?_ | refine dP ?_ | refine ⟨_, va, ?_⟩ | refine ⟨_, vb, ?_⟩ | refine And.intro (by kernel_rfl) ?_
  rfl
 have pa := oJ (neg := na) (e := ea) ha hla (Dn (ea' ▸ ma)); have pb := oJ (neg := nb) (e := eb) hb hlb (Dn (eb' ▸ mb)); rw [← ea'] at pa; rw [← eb'] at pb; have ba := uq ma; have bb := uq mb; have bma := pu.1 ma; have bmb := pu.1 mb
 have fa : Few a.plain.n := by show bu _ ≤ 31000; omega
 have fb : Few b.plain.n := by show bu _ ≤ 31000; omega
 have l1 := uV fa; have l2 := uV fb; have z1 := uW (n := a.plain.n); have z2 := uW (n := b.plain.n); rw [ma] at va; rw [mb] at vb; have e1 : Dy.cmp a b = (sgn a b, 0) := if_pos ⟨ma, mb⟩; rw [e1]
 by_cases h1 : a.n = 0
 ·rw [decide_eq_true (ik.2 h1)] at z1; have pz : a.plain = Dy.zero := fB h1
  by_cases h2 : b.n = 0
  ·rw [decide_eq_true (ik.2 h2)] at z2; rw [show sgn a b = 0 from if_pos ⟨h1, h2⟩]
   have zs : a.plain.neg = false := by rw [pz]; rfl
   repeat (conv => whnf); first | refine dO ?_ | refine dP ?_ | refine ⟨_, va, ?_⟩ | refine ⟨_, vb, ?_⟩ | refine ⟨_, pa, ?_⟩ | refine ⟨_, pb, ?_⟩ | refine ⟨_, l1, ?_⟩ | refine ⟨_, l2, ?_⟩ | refine fJ zs ?_ | refine iU z1 ?_ | refine iU z2 ?_ | refine And.intro (by kernel_rfl) ?_
   rfl
  ·rw [decide_eq_false (fun e => h2 (ik.1 e))] at z2
   have hs : sgn a b = if b.neg = true then 1 else -1 := by unfold Dy.sgn; rw [if_neg (fun e => h2 e.2), if_pos h1]
   rw [hs]
   have zs : a.plain.neg = false := by rw [pz]; rfl
   by_cases hb' : b.neg = true
   ·rw [if_pos hb']
    have zb : b.plain.neg = true := by rw [iV h2]; exact hb'
    repeat (conv => whnf); first | refine dO ?_ | refine dP ?_ | refine ⟨_, va, ?_⟩ | refine ⟨_, vb, ?_⟩ | refine ⟨_, pa, ?_⟩ | refine ⟨_, pb, ?_⟩ | refine ⟨_, l1, ?_⟩ | refine ⟨_, l2, ?_⟩ | refine fJ zs ?_ | refine iU zb ?_ | refine iU z1 ?_ | refine fJ z2 ?_ | refine And.intro (by kernel_rfl) ?_
    rfl
   ·rw [if_neg hb']
    have zb : b.plain.neg = false := by rw [iV h2]; rw [Bool.not_eq_true] at hb'; exact hb'
    repeat (conv => whnf); first | refine dO ?_ | refine dP ?_ | refine ⟨_, va, ?_⟩ | refine ⟨_, vb, ?_⟩ | refine ⟨_, pa, ?_⟩ | refine ⟨_, pb, ?_⟩ | refine ⟨_, l1, ?_⟩ | refine ⟨_, l2, ?_⟩ | refine fJ zs ?_ | refine fJ zb ?_ | refine iU z1 ?_ | refine fJ z2 ?_ | refine And.intro (by kernel_rfl) ?_
    rfl
 rw [decide_eq_false (fun e => h1 (ik.1 e))] at z1
 have hz : ¬ (a.n = 0 ∧ b.n = 0) := fun e => h1 e.1
 have jy : ∀ s : Bool, a.plain.neg = s → ∀ r : Int, sgn a b = r → ((b.n = 0 ∨ a.neg ≠ b.neg) → r = if s = true then -1 else 1) ∧ (b.n ≠ 0 → a.neg = b.neg → r = if s = true then -(sg (a.dv (min a.e b.e)) (b.dv (min a.e b.e))) else sg (a.dv (min a.e b.e)) (b.dv (min a.e b.e))) := by
  intro s hs r hr; rw [iV h1] at hs; subst hs; subst hr; exact ⟨fun h => by unfold Dy.sgn; rw [if_neg hz, if_neg h1, if_pos h], fun h2 h3 => FJ h1 h2 h3⟩
 by_cases h2 : b.n = 0
 ·rw [decide_eq_true (ik.2 h2)] at z2
  cases zs : a.plain.neg with
  | true =>
   have hr := (jy true zs _ rfl).1 (.inl h2); rw [if_pos rfl] at hr; rw [hr]
   repeat (conv => whnf); first | refine dO ?_ | refine dP ?_ | refine ⟨_, va, ?_⟩ | refine ⟨_, vb, ?_⟩ | refine ⟨_, pa, ?_⟩ | refine ⟨_, pb, ?_⟩ | refine ⟨_, l1, ?_⟩ | refine ⟨_, l2, ?_⟩ | refine iU zs ?_ | refine fJ z1 ?_ | refine iU z2 ?_ | refine And.intro (by kernel_rfl) ?_
   rfl
  | false =>
   have hr := (jy false zs _ rfl).1 (.inl h2); rw [if_neg (by simp)] at hr; rw [hr]
   repeat (conv => whnf); first | refine dO ?_ | refine dP ?_ | refine ⟨_, va, ?_⟩ | refine ⟨_, vb, ?_⟩ | refine ⟨_, pa, ?_⟩ | refine ⟨_, pb, ?_⟩ | refine ⟨_, l1, ?_⟩ | refine ⟨_, l2, ?_⟩ | refine fJ zs ?_ | refine fJ z1 ?_ | refine iU z2 ?_ | refine And.intro (by kernel_rfl) ?_
   rfl
 rw [decide_eq_false (fun e => h2 (ik.1 e))] at z2
 by_cases h3 : a.neg = b.neg
 case neg =>
  have z3 : (!(a.plain.neg == b.plain.neg)) = true := by rw [iV h1, iV h2]; simp [h3]
  cases zs : a.plain.neg with
  | true =>
   have hr := (jy true zs _ rfl).1 (.inr h3); rw [if_pos rfl] at hr; rw [hr]
   repeat (conv => whnf); first | refine dO ?_ | refine dP ?_ | refine ⟨_, va, ?_⟩ | refine ⟨_, vb, ?_⟩ | refine ⟨_, pa, ?_⟩ | refine ⟨_, pb, ?_⟩ | refine ⟨_, l1, ?_⟩ | refine ⟨_, l2, ?_⟩ | refine iU zs ?_ | refine iU z3 ?_ | refine fJ z1 ?_ | refine fJ z2 ?_ | refine And.intro (by kernel_rfl) ?_
   rfl
  | false =>
   have hr := (jy false zs _ rfl).1 (.inr h3); rw [if_neg (by simp)] at hr; rw [hr]
   repeat (conv => whnf); first | refine dO ?_ | refine dP ?_ | refine ⟨_, va, ?_⟩ | refine ⟨_, vb, ?_⟩ | refine ⟨_, pa, ?_⟩ | refine ⟨_, pb, ?_⟩ | refine ⟨_, l1, ?_⟩ | refine ⟨_, l2, ?_⟩ | refine fJ zs ?_ | refine iU z3 ?_ | refine fJ z1 ?_ | refine fJ z2 ?_ | refine And.intro (by kernel_rfl) ?_
   rfl
 have z3 : (!(a.plain.neg == b.plain.neg)) = false := by rw [iV h1, iV h2]; simp [h3]
 have t1 := lK h1; have t2 := lK h2
 have w1 : IntKind.wrap .i64 (a.plain.e + bu a.plain.n) = a.e + bu a.n := by rw [t1, wI (by omega) (by omega)]
 have w2 : IntKind.wrap .i64 (b.plain.e + bu b.plain.n) = b.e + bu b.n := by rw [t2, wI (by omega) (by omega)]
 by_cases ht : a.e + bu a.n = b.e + bu b.n
 ·have z4 : (IntKind.wrap .i64 (a.plain.e + bu a.plain.n) != IntKind.wrap .i64 (b.plain.e + bu b.plain.n)) = false := by rw [w1, w2, ht]; simp
  have ppa := jU a; have ppb := jU b
  have g1 : a.plain.n ≠ 0 := fun e => h1 (ik.1 e)
  have g2 : b.plain.n ≠ 0 := fun e => h2 (ik.1 e)
  have lv := Ox (a := a.plain) (b := b.plain) (na := a.plain.neg) (nb := b.plain.neg) (ea := a.plain.e) (eb := b.plain.e) (jL fa).1 (jL fb).1 (jL fa).2 (jL fb).2 (by rw [gH]) (by rw [gH]) (by unfold Exs; omega) (by unfold Exs; omega) (by omega) (by omega) (by
   intro _ _
   rw [ppa, ppb]; omega)
  have e2 : lev a.plain b.plain = (a.plain.dv (min a.plain.e b.plain.e), b.plain.dv (min a.plain.e b.plain.e), min a.plain.e b.plain.e) := by
   unfold lev; rw [ppa, ppb, if_neg g1, if_neg g2]
  rw [e2] at lv; have s1 := lV a.plain.n (a.plain.e - min a.plain.e b.plain.e).toNat; have s2 := lV b.plain.n (b.plain.e - min a.plain.e b.plain.e).toNat; change bu (a.plain.dv _) ≤ _ at s1; change bu (b.plain.dv _) ≤ _ at s2; have c1 := QJ (m := a.plain.dv (min a.plain.e b.plain.e)) (n := b.plain.dv (min a.plain.e b.plain.e)) (by show bu _ ≤ 31000; omega) (by show bu _ ≤ 31000; omega)
  cases zs : a.plain.neg with
  | true =>
   have hr := (jy true zs _ rfl).2 h2 h3; rw [if_pos rfl] at hr; rw [hr]
   repeat (conv => whnf); first | refine dO ?_ | refine dP ?_ | refine ⟨_, va, ?_⟩ | refine ⟨_, vb, ?_⟩ | refine ⟨_, pa, ?_⟩ | refine ⟨_, pb, ?_⟩ | refine ⟨_, l1, ?_⟩ | refine ⟨_, l2, ?_⟩ | refine ⟨_, lv, ?_⟩ | refine ⟨_, c1, ?_⟩ | refine iU zs ?_ | refine fJ z3 ?_ | refine fJ z1 ?_ | refine fJ z2 ?_ | refine fJ z4 ?_ | refine And.intro (by kernel_rfl) ?_
   refine GD ?_; rw [FI h1 h2]
   rcases Li (a.dv (min a.e b.e)) (b.dv (min a.e b.e)) with e | e | e <;> rw [e] <;> decide +kernel
  | false =>
   have hr := (jy false zs _ rfl).2 h2 h3; rw [if_neg (by simp)] at hr; rw [hr]
   repeat (conv => whnf); first | refine dO ?_ | refine dP ?_ | refine ⟨_, va, ?_⟩ | refine ⟨_, vb, ?_⟩ | refine ⟨_, pa, ?_⟩ | refine ⟨_, pb, ?_⟩ | refine ⟨_, l1, ?_⟩ | refine ⟨_, l2, ?_⟩ | refine ⟨_, lv, ?_⟩ | refine ⟨_, c1, ?_⟩ | refine fJ zs ?_ | refine fJ z3 ?_ | refine fJ z1 ?_ | refine fJ z2 ?_ | refine fJ z4 ?_ | refine And.intro (by kernel_rfl) ?_
   refine GD ?_; rw [FI h1 h2]
   rcases Li (a.dv (min a.e b.e)) (b.dv (min a.e b.e)) with e | e | e <;> rw [e] <;> decide +kernel
 have z4 : (IntKind.wrap .i64 (a.plain.e + bu a.plain.n) != IntKind.wrap .i64 (b.plain.e + bu b.plain.n)) = true := by rw [w1, w2]; simp [ht]
 by_cases hg : a.e + bu a.n > b.e + bu b.n
 ·have z5 : decide (IntKind.wrap .i64 (a.plain.e + bu a.plain.n) > IntKind.wrap .i64 (b.plain.e + bu b.plain.n)) = true := by rw [w1, w2]; exact decide_eq_true hg
  have hsg := Pz h1 h2 hg
  cases zs : a.plain.neg with
  | true =>
   have hr := (jy true zs _ rfl).2 h2 h3; rw [if_pos rfl, hsg] at hr; rw [hr]
   repeat (conv => whnf); first | refine dO ?_ | refine dP ?_ | refine ⟨_, va, ?_⟩ | refine ⟨_, vb, ?_⟩ | refine ⟨_, pa, ?_⟩ | refine ⟨_, pb, ?_⟩ | refine ⟨_, l1, ?_⟩ | refine ⟨_, l2, ?_⟩ | refine iU zs ?_ | refine fJ z3 ?_ | refine fJ z1 ?_ | refine fJ z2 ?_ | refine iU z4 ?_ | refine iU z5 ?_ | refine And.intro (by kernel_rfl) ?_
   rfl
  | false =>
   have hr := (jy false zs _ rfl).2 h2 h3; rw [if_neg (by simp), hsg] at hr; rw [hr]
   repeat (conv => whnf); first | refine dO ?_ | refine dP ?_ | refine ⟨_, va, ?_⟩ | refine ⟨_, vb, ?_⟩ | refine ⟨_, pa, ?_⟩ | refine ⟨_, pb, ?_⟩ | refine ⟨_, l1, ?_⟩ | refine ⟨_, l2, ?_⟩ | refine fJ zs ?_ | refine fJ z3 ?_ | refine fJ z1 ?_ | refine fJ z2 ?_ | refine iU z4 ?_ | refine iU z5 ?_ | refine And.intro (by kernel_rfl) ?_
   rfl
 ·have z5 : decide (IntKind.wrap .i64 (a.plain.e + bu a.plain.n) > IntKind.wrap .i64 (b.plain.e + bu b.plain.n)) = false := by rw [w1, w2]; exact decide_eq_false hg
  have hsg := Ty h1 h2 (by omega)
  cases zs : a.plain.neg with
  | true =>
   have hr := (jy true zs _ rfl).2 h2 h3; rw [if_pos rfl, hsg] at hr; rw [hr]
   repeat (conv => whnf); first | refine dO ?_ | refine dP ?_ | refine ⟨_, va, ?_⟩ | refine ⟨_, vb, ?_⟩ | refine ⟨_, pa, ?_⟩ | refine ⟨_, pb, ?_⟩ | refine ⟨_, l1, ?_⟩ | refine ⟨_, l2, ?_⟩ | refine iU zs ?_ | refine fJ z3 ?_ | refine fJ z1 ?_ | refine fJ z2 ?_ | refine iU z4 ?_ | refine fJ z5 ?_ | refine And.intro (by kernel_rfl) ?_
   rfl
  | false =>
   have hr := (jy false zs _ rfl).2 h2 h3; rw [if_neg (by simp), hsg] at hr; rw [hr]
   repeat (conv => whnf); first | refine dO ?_ | refine dP ?_ | refine ⟨_, va, ?_⟩ | refine ⟨_, vb, ?_⟩ | refine ⟨_, pa, ?_⟩ | refine ⟨_, pb, ?_⟩ | refine ⟨_, l1, ?_⟩ | refine ⟨_, l2, ?_⟩ | refine fJ zs ?_ | refine fJ z3 ?_ | refine fJ z1 ?_ | refine fJ z2 ?_ | refine iU z4 ?_ | refine fJ z5 ?_ | refine And.intro (by kernel_rfl) ?_
   rfl
end
end Go.Proofs.Ytkgeihbcikiedaa.A
set_option linter.unusedVariables false
set_option linter.unusedSimpArgs false
set_option linter.constructorNameAsVariable false
set_option maxRecDepth 100000
set_option maxHeartbeats 4000000
namespace Go.Proofs.Ytkgeihbcikiedaa.A
open Go.RowKit Go.Proofs.Ytkgeihbcikiedaa.P Go.Proofs.YtkgeihbcikiedaaW.PrintWords Go.Proofs.YtkgeihbcikiedaaW.PrintMore Go.Proofs.Ytkgeihbcikiedaa.N Sk Dy
section
variable {la lb : List Int} {na nb : Bool} {ea eb : Int} {a b : Dy}
theorem Oy (ha : Ok la) (hb : Ok lb) (hla : la.length ≤ 1000) (hlb : lb.length ≤ 1000) : Snd Try.prog 30 [.g (dL na la ea), .g (dL nb lb eb)] (.a (.b (Dy.same ⟨na, nv la, ea⟩ ⟨nb, nv lb, eb⟩))) := by
 have c := QK (na := na) (nb := nb) (ea := ea) (eb := eb) ha hb hla hlb; refine gD kN mixed Try.func30 Try.ntmps30 rfl (by kernel_rfl) rfl ?_; generalize hr : Dy.cmp ⟨na, nv la, ea⟩ ⟨nb, nv lb, eb⟩ = r at c
 have hs : Dy.same ⟨na, nv la, ea⟩ ⟨nb, nv lb, eb⟩ = (decide (r.1 = 0) && decide (r.2 = 0)) := by unfold Dy.same; rw [hr]
 rw [hs]
 by_cases h : r.1 = 0
 ·have z : (r.1 == 0) = true := by simp [h]
  rw [decide_eq_true h, Bool.true_and]
  repeat (conv => whnf); first | refine dO ?_ | refine dP ?_ | refine ⟨_, c, ?_⟩ | refine iU z ?_ | refine And.intro (by kernel_rfl) ?_
  show AV.a (.b (r.2 == 0)) = _
  congr 2
 ·have z : (r.1 == 0) = false := by simp [h]
  rw [decide_eq_false h, Bool.false_and]
  repeat (conv => whnf); first | refine dO ?_ | refine dP ?_ | refine ⟨_, c, ?_⟩ | refine fJ z ?_ | refine And.intro (by kernel_rfl) ?_
  rfl
end
end Go.Proofs.Ytkgeihbcikiedaa.A
set_option linter.unusedVariables false
set_option linter.unusedSimpArgs false
set_option linter.constructorNameAsVariable false
set_option maxRecDepth 100000
set_option maxHeartbeats 4000000
namespace Go.Proofs.Ytkgeihbcikiedaa.A
open Go.RowKit Go.Proofs.Ytkgeihbcikiedaa.P Go.Proofs.YtkgeihbcikiedaaW.PrintWords Go.Proofs.YtkgeihbcikiedaaW.PrintMore Go.Proofs.Ytkgeihbcikiedaa.N Sk Dy
theorem Snd.to {P : Program} {f : FuncId} {args : List AV} {r r' : AV} (h : Snd P f args r) (e : r = r') : Snd P f args r' := e ▸ h
end Go.Proofs.Ytkgeihbcikiedaa.A
set_option linter.unusedVariables false
set_option linter.unusedSimpArgs false
set_option linter.constructorNameAsVariable false
set_option maxRecDepth 100000
set_option maxHeartbeats 4000000
namespace Go.Proofs.Ytkgeihbcikiedaa.A
open Go.RowKit Go.Proofs.Ytkgeihbcikiedaa.P Go.Proofs.YtkgeihbcikiedaaW.PrintWords Go.Proofs.YtkgeihbcikiedaaW.PrintMore Go.Proofs.Ytkgeihbcikiedaa.N Sk Dy
theorem JR {a b : Dy} (ha : Few a.n) (hb : Few b.n) : Snd Try.prog 30 [.g (dA a), .g (dA b)] (.a (.b (Dy.same a b))) := by
 have := Oy (na := a.neg) (nb := b.neg) (ea := a.e) (eb := b.e) (jL ha).1 (jL hb).1 (jL ha).2 (jL hb).2
 rwa [gH, gH] at this
end Go.Proofs.Ytkgeihbcikiedaa.A
