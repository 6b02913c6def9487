/- The contracts of format's and of reference 3's functions that are used here, for all bits of the three formats. -/
import Derived.Test.YtkgeihbcikiedaaS7
import Derived.Test.YtkgeihbcikiedaaN42
import Derived.Test.YtkgeihbcikiedaaPx12
set_option linter.unusedVariables false
set_option linter.unusedSimpArgs false
set_option linter.constructorNameAsVariable false
set_option linter.unusedSectionVars false
set_option maxRecDepth 100000
set_option maxHeartbeats 4000000
namespace Go.Proofs.Ytkgeihbcikiedaa.A
open Go.RowKit Go.Proofs.Ytkgeihbcikiedaa.P Go.Proofs.YtkgeihbcikiedaaW.PrintWords Go.Proofs.YtkgeihbcikiedaaW.PrintMore Go.Proofs.Ytkgeihbcikiedaa.N Sk Dy
abbrev fmA (f : Fm) : List AA := [iA ((f.p + f.w : Nat) : Int), iA (f.p : Int), iA (f.w : Int)]
abbrev uA (n : Nat) : AA := .i .u64 (n : Int)
theorem vH {k : Nat} (hk : k ≤ 64) : Snd Try.prog 62 [.a (iA k)] (.a (uA (2 ^ k - 1))) := by
 refine gD kN mixed Try.func62 Try.ntmps62 rfl (by kernel_rfl) rfl ?_; refine And.intro (Int.natCast_nonneg k) ?_; refine ⟨rfl, ?_⟩; show AV.a (.i .u64 (IntKind.wrap .u64 (IntKind.wrap .u64 (1 * 2 ^ (min ((k : Nat) : Int).toNat (IntKind.bits .u64))) - 1))) = _; rw [adi hk]
theorem MR {m : Nat} (hm : m < 2 ^ 64) : IntKind.wrap .u64 (((BitVec.ofInt (IntKind.bits .u64) (m : Int) &&& BitVec.ofInt (IntKind.bits .u64) 1).toNat : Nat) : Int) = ((m % 2 : Nat) : Int) := sW (k := 1) hm (by omega)
theorem HV (m n : Nat) : ((m : Int) == (n : Int)) = decide (m = n) := by
 by_cases h : m = n
 ·subst h; simp
 ·rw [decide_eq_false h, beq_eq_false_iff_ne]; omega
theorem Bd {b : Nat} (hb : b < 2 ^ 64) (k : Nat) : b / 2 ^ k < 2 ^ 64 := Nat.lt_of_le_of_lt (Nat.div_le_self _ _) hb
section
variable {f : Fm} (h : f.ok)
include h
theorem RF : Snd Try.prog 60 [.g (fmA f)] (.a (iA f.Gz)) := by
 refine gD kN mixed Try.func60 Try.ntmps60 rfl (by kernel_rfl) rfl ?_
 rcases h with rfl | rfl | rfl
 all_goals
  refine And.intro (by decide) ?_; refine ⟨rfl, ?_⟩; rfl
theorem MS : Snd Try.prog 29 [.g (fmA f)] (.a (iA f.low)) := by
 refine gD kN mixed Try.func29 Try.ntmps29 rfl (by kernel_rfl) rfl ?_; have c := RF h
 repeat (conv => whnf); first | refine dO ?_ | refine dP ?_ | refine ⟨_, c, ?_⟩ | refine And.intro (by kernel_rfl) ?_ | refine And.intro (by decide) ?_
 rcases h with rfl | rfl | rfl <;> rfl
theorem Ct : IntKind.wrap .i64 ((f.p : Int) - 1) = ((f.p - 1 : Nat) : Int) := by have := Fm.bounds h; rw [wI (by omega) (by omega)]; omega
theorem RG : IntKind.wrap .i64 ((f.p : Int) - 2) = ((f.p - 2 : Nat) : Int) := by have := Fm.bounds h; rw [wI (by omega) (by omega)]; omega
theorem XB : IntKind.wrap .i64 (((f.p + f.w : Nat) : Int) - 1) = ((f.p + f.w - 1 : Nat) : Int) := by have := Fm.bounds h; rw [wI (by omega) (by omega)]; omega
theorem RH {b : Nat} (hb : b < 2 ^ 64) : Snd Try.prog 53 [.g (fmA f), .a (uA b)] (.a (.b (decide (b < 2 ^ (f.p + f.w))))) := by
 have := Fm.bounds h; have c := vH (k := f.p + f.w) (by omega); refine gD kN mixed Try.func53 Try.ntmps53 rfl (by kernel_rfl) rfl ?_
 repeat (conv => whnf); first | refine dO ?_ | refine dP ?_ | refine ⟨_, c, ?_⟩ | refine And.intro (by kernel_rfl) ?_ | refine And.intro (by decide) ?_
 show AV.a (.b (IntKind.wrap .u64 (((BitVec.ofInt (IntKind.bits .u64) (b : Int) &&& ~~~ (BitVec.ofInt (IntKind.bits .u64) ((2 ^ (f.p + f.w) - 1 : Nat) : Int))).toNat : Nat) : Int) == ((0 : Nat) : Int))) = _; rw [Oq hb (by omega), HV]; have h1 := Nat.two_pow_pos (f.p + f.w)
 have e : (b / 2 ^ (f.p + f.w) * 2 ^ (f.p + f.w) = 0) ↔ b < 2 ^ (f.p + f.w) := by
  rw [Nat.mul_eq_zero, Nat.div_eq_zero_iff]; omega
 rw [decide_eq_decide.2 e]
theorem MU {b : Nat} (hb : b < 2 ^ 64) : Snd Try.prog 54 [.g (fmA f), .a (uA b)] (.a (uA (f.fr b))) := by
 have := Fm.bounds h; have c := vH (k := f.p - 1) (by omega); rw [← Ct h] at c; refine gD kN mixed Try.func54 Try.ntmps54 rfl (by kernel_rfl) rfl ?_
 repeat (conv => whnf); first | refine dO ?_ | refine dP ?_ | refine ⟨_, c, ?_⟩ | refine And.intro (by kernel_rfl) ?_ | refine And.intro (by decide) ?_
 show AV.a (.i .u64 (IntKind.wrap .u64 (((BitVec.ofInt (IntKind.bits .u64) (b : Int) &&& (BitVec.ofInt (IntKind.bits .u64) ((2 ^ (f.p - 1) - 1 : Nat) : Int))).toNat : Nat) : Int))) = _; rw [sW hb (by omega)]; rfl
theorem MV {b : Nat} (hb : b < 2 ^ 64) : Snd Try.prog 55 [.g (fmA f), .a (uA b)] (.a (uA (f.ex b))) := by
 have := Fm.bounds h; have c := vH (k := f.w) (by omega)
 have z : (0 : Int) ≤ IntKind.wrap .i64 ((f.p : Int) - 1) := by rw [Ct h]; omega
 refine gD kN mixed Try.func55 Try.ntmps55 rfl (by kernel_rfl) rfl ?_
 repeat (conv => whnf); first | refine dO ?_ | refine dP ?_ | refine ⟨_, c, ?_⟩ | refine And.intro z ?_ | refine And.intro (by kernel_rfl) ?_ | refine And.intro (by decide) ?_
 show AV.a (.i .u64 (IntKind.wrap .u64 (((BitVec.ofInt (IntKind.bits .u64) (Int.fdiv (b : Int) (2 ^ (min (IntKind.wrap .i64 ((f.p : Int) - 1)).toNat (IntKind.bits .u64)))) &&& (BitVec.ofInt (IntKind.bits .u64) ((2 ^ f.w - 1 : Nat) : Int))).toNat : Nat) : Int))) = _; rw [Ct h, ZI (by omega), sW (Bd hb _) (by omega)]; rfl
theorem RI {b : Nat} (hb : b < 2 ^ 64) : Snd Try.prog 57 [.g (fmA f), .a (uA b)] (.a (.b (f.sn b))) := by
 have := Fm.bounds h
 have z : (0 : Int) ≤ IntKind.wrap .i64 (((f.p + f.w : Nat) : Int) - 1) := by rw [XB h]; omega
 refine gD kN mixed Try.func57 Try.ntmps57 rfl (by kernel_rfl) rfl ?_
 repeat (conv => whnf); first | refine dO ?_ | refine dP ?_ | refine And.intro z ?_ | refine And.intro (by kernel_rfl) ?_ | refine And.intro (by decide) ?_
 show AV.a (.b (IntKind.wrap .u64 (((BitVec.ofInt (IntKind.bits .u64) (Int.fdiv (b : Int) (2 ^ (min (IntKind.wrap .i64 (((f.p + f.w : Nat) : Int) - 1)).toNat (IntKind.bits .u64)))) &&& (BitVec.ofInt (IntKind.bits .u64) 1)).toNat : Nat) : Int) == ((1 : Nat) : Int))) = _; rw [XB h, ZI (by omega), MR (Bd hb _), HV]; rfl
theorem aai (b : Nat) : b / 2 ^ (f.p - 2) % 2 = 1 ↔ 2 ^ (f.p - 2) ≤ f.fr b := by
 rcases h with rfl | rfl | rfl <;> simp only [Fm.fr, Nat.reduceSub, Nat.reducePow] <;> omega
theorem MW {b : Nat} (hb : b < 2 ^ 64) : Snd Try.prog 31 [.g (fmA f), .a (uA b)] (.a (iA (f.cl b))) := by
 have hB := Fm.bounds h; have c1 := MU h hb; have c2 := MV h hb; have c3 := vH (k := f.w) (by omega)
 have z : (0 : Int) ≤ IntKind.wrap .i64 ((f.p : Int) - 2) := by rw [RG h]; omega
 have z1 := HV (f.ex b) 0; have z2 := HV (f.fr b) 0; have hp : 0 < 2 ^ f.w := Nat.two_pow_pos _; have z3 : decide (((f.ex b : Nat) : Int) < ((2 ^ f.w - 1 : Nat) : Int)) = decide (f.ex b < 2 ^ f.w - 1) := decide_eq_decide.2 (by omega)
 have z4 : (IntKind.wrap .u64 (((BitVec.ofInt (IntKind.bits .u64) (Int.fdiv (b : Int) (2 ^ (min (IntKind.wrap .i64 ((f.p : Int) - 2)).toNat (IntKind.bits .u64)))) &&& (BitVec.ofInt (IntKind.bits .u64) 1)).toNat : Nat) : Int) == ((1 : Nat) : Int)) = decide (2 ^ (f.p - 2) ≤ f.fr b) := by
  rw [RG h, ZI (by omega), MR (Bd hb _), HV]; exact decide_eq_decide.2 (aai h b)
 refine gD kN mixed Try.func31 Try.ntmps31 rfl (by kernel_rfl) rfl ?_
 by_cases h1 : f.ex b = 0
 ·rw [decide_eq_true h1] at z1
  by_cases h2 : f.fr b = 0
  ·rw [decide_eq_true h2] at z2; rw [show f.cl b = 0 by unfold Fm.cl; rw [if_pos h1, if_pos h2]]
   repeat (conv => whnf); first | refine dO ?_ | refine dP ?_ | refine ⟨_, c1, ?_⟩ | refine ⟨_, c2, ?_⟩ | refine ⟨_, c3, ?_⟩ | refine And.intro z ?_ | refine iU z1 ?_ | refine iU z2 ?_ | refine And.intro (by kernel_rfl) ?_ | refine And.intro (by decide) ?_
   rfl
  ·rw [decide_eq_false h2] at z2; rw [show f.cl b = 1 by unfold Fm.cl; rw [if_pos h1, if_neg h2]]
   repeat (conv => whnf); first | refine dO ?_ | refine dP ?_ | refine ⟨_, c1, ?_⟩ | refine ⟨_, c2, ?_⟩ | refine ⟨_, c3, ?_⟩ | refine And.intro z ?_ | refine iU z1 ?_ | refine fJ z2 ?_ | refine And.intro (by kernel_rfl) ?_ | refine And.intro (by decide) ?_
   rfl
 rw [decide_eq_false h1] at z1
 by_cases h3 : f.ex b < 2 ^ f.w - 1
 ·rw [decide_eq_true h3] at z3; rw [show f.cl b = 2 by unfold Fm.cl; rw [if_neg h1, if_pos h3]]
  repeat (conv => whnf); first | refine dO ?_ | refine dP ?_ | refine ⟨_, c1, ?_⟩ | refine ⟨_, c2, ?_⟩ | refine ⟨_, c3, ?_⟩ | refine And.intro z ?_ | refine fJ z1 ?_ | refine iU z3 ?_ | refine And.intro (by kernel_rfl) ?_ | refine And.intro (by decide) ?_
  rfl
 rw [decide_eq_false h3] at z3
 by_cases h2 : f.fr b = 0
 ·rw [decide_eq_true h2] at z2; rw [show f.cl b = 3 by unfold Fm.cl; rw [if_neg h1, if_neg h3, if_pos h2]]
  repeat (conv => whnf); first | refine dO ?_ | refine dP ?_ | refine ⟨_, c1, ?_⟩ | refine ⟨_, c2, ?_⟩ | refine ⟨_, c3, ?_⟩ | refine And.intro z ?_ | refine fJ z1 ?_ | refine fJ z3 ?_ | refine iU z2 ?_ | refine And.intro (by kernel_rfl) ?_ | refine And.intro (by decide) ?_
  rfl
 rw [decide_eq_false h2] at z2
 by_cases h4 : 2 ^ (f.p - 2) ≤ f.fr b
 ·rw [decide_eq_true h4] at z4; rw [show f.cl b = 4 by unfold Fm.cl; rw [if_neg h1, if_neg h3, if_neg h2, if_pos h4]]
  repeat (conv => whnf); first | refine dO ?_ | refine dP ?_ | refine ⟨_, c1, ?_⟩ | refine ⟨_, c2, ?_⟩ | refine ⟨_, c3, ?_⟩ | refine And.intro z ?_ | refine fJ z1 ?_ | refine fJ z3 ?_ | refine fJ z2 ?_ | refine iU z4 ?_ | refine And.intro (by kernel_rfl) ?_ | refine And.intro (by decide) ?_
  rfl
 ·rw [decide_eq_false h4] at z4; rw [show f.cl b = 5 by unfold Fm.cl; rw [if_neg h1, if_neg h3, if_neg h2, if_neg h4]]
  repeat (conv => whnf); first | refine dO ?_ | refine dP ?_ | refine ⟨_, c1, ?_⟩ | refine ⟨_, c2, ?_⟩ | refine ⟨_, c3, ?_⟩ | refine And.intro z ?_ | refine fJ z1 ?_ | refine fJ z3 ?_ | refine fJ z2 ?_ | refine fJ z4 ?_ | refine And.intro (by kernel_rfl) ?_ | refine And.intro (by decide) ?_
  rfl
end
end Go.Proofs.Ytkgeihbcikiedaa.A
set_option linter.unusedVariables false
set_option linter.unusedSimpArgs false
set_option linter.constructorNameAsVariable false
set_option linter.unusedSectionVars false
set_option maxRecDepth 100000
set_option maxHeartbeats 4000000
namespace Go.Proofs.Ytkgeihbcikiedaa.A
open Go.RowKit Go.Proofs.Ytkgeihbcikiedaa.P Go.Proofs.YtkgeihbcikiedaaW.PrintWords Go.Proofs.YtkgeihbcikiedaaW.PrintMore Go.Proofs.Ytkgeihbcikiedaa.N Sk Dy
theorem HY {d : Dy} (h : Few d.n) : Snd Try.prog 56 [.g (dA d)] (rA (if d.may = true then (d.plain, 0) else (Dy.zero, 3))) := by
 have := JQ (na := d.neg) (ea := d.e) (jL h).1 (jL h).2
 rwa [gH] at this
theorem H5 {l : List Int} (h : Ok l) (hl : l.length ≤ 100000) : Snd Try.prog 28 [.a (.v .u32 l)] (.t [.a (.i .u64 (if nv l < 18446744073709551616 then (((nv l : Nat) : Int), (0 : Int)) else (0, 6)).1), .a (iA (if nv l < 18446744073709551616 then (((nv l : Nat) : Int), (0 : Int)) else (0, 6)).2)]) := by
 obtain ⟨K, hK⟩ := Ue h (by omega); refine ⟨⟨_, Try.func28, by kernel_rfl, rfl⟩, fun w Pk vs hvs => ?_⟩; obtain ⟨v, rfl, A, c, rfl, hc, hf⟩ := Cu hvs; refine (kS.calls K A c l _ _ w (Kd.mW hf) hc (hK K (Nat.le_refl _))).mono ?_; rintro e w' ⟨rfl, hb⟩; exact ⟨_, rfl, ⟨_, rfl, rfl, rfl, trivial⟩, hb⟩
section
variable {f : Fm} (h : f.ok)
include h
theorem RJ {b : Nat} (hb : b < 2 ^ 64) : Snd Try.prog 27 [.g (fmA f), .a (uA b)] (rA (f.val b)) := by
 have hB := Fm.bounds h; have c1 := MW h hb; have c2 := RH h hb; have c3 := MU h hb; have c4 := MS h; have c5 := MV h hb; have c6 := RI h hb
 have z : (0 : Int) ≤ IntKind.wrap .i64 ((f.p : Int) - 1) := by rw [Ct h]; omega
 have l1 : f.mg b < 2 ^ 64 := Nat.lt_of_lt_of_le (Fm.uD h) (Nat.pow_le_pow_right (by omega) (by omega)); have c7 := aaj (n := ((f.mg b : Nat) : Int)) (by omega) (by omega); rw [Int.toNat_natCast] at c7
 have fw : Few (f.raw b).n := by show bu (f.mg b) ≤ 31000; have := fE.2 (Fm.uD h (b := b)); omega
 have c8 := HY (d := f.raw b) fw; rw [if_pos (Fm.LZ h b)] at c8; refine gD kN mixed Try.func27 Try.ntmps27 rfl (by kernel_rfl) rfl ?_; unfold Fm.val
 by_cases h1 : b < 2 ^ (f.p + f.w)
 case neg =>
  rw [if_pos (by omega), yf]; rw [decide_eq_false h1] at c2
  repeat (conv => whnf); first | refine dO ?_ | refine dP ?_ | refine ⟨_, c1, ?_⟩ | refine ⟨_, c2, ?_⟩ | refine And.intro (by kernel_rfl) ?_ | refine And.intro (by decide) ?_
  rfl
 rw [if_neg (by omega)]; rw [decide_eq_true h1] at c2
 by_cases h2 : 2 < f.cl b
 ·rw [if_pos h2, yf]; have z2 : decide (((f.cl b : Nat) : Int) > 2) = true := decide_eq_true (by omega)
  repeat (conv => whnf); first | refine dO ?_ | refine dP ?_ | refine ⟨_, c1, ?_⟩ | refine ⟨_, c2, ?_⟩ | refine iU z2 ?_ | refine And.intro (by kernel_rfl) ?_ | refine And.intro (by decide) ?_
  rfl
 rw [if_neg h2]; have z2 : decide (((f.cl b : Nat) : Int) > 2) = false := decide_eq_false (by omega); have z3 := HV (f.cl b) 2
 by_cases h3 : f.cl b = 2
 ·rw [decide_eq_true h3] at z3
  have hex : ¬ f.ex b = 0 := by
   intro e; have := Fm.Xf.1 e; omega
  have em : f.mg b = f.fr b + 2 ^ (f.p - 1) := if_neg hex; have ep : f.pl b = f.low + f.ex b - 1 := if_neg hex; have hfr := Fm.oD h (b := b)
  have l2 : 1 * 2 ^ (f.p - 1) < 2 ^ 64 := by omega
  have hx : IntKind.wrap .u64 (((BitVec.ofInt (IntKind.bits .u64) ((f.fr b : Nat) : Int) ||| (BitVec.ofInt (IntKind.bits .u64) (IntKind.wrap .u64 (((1 : Nat) : Int) * 2 ^ (min (IntKind.wrap .i64 ((f.p : Int) - 1)).toNat (IntKind.bits .u64)))))).toNat : Nat) : Int) = ((f.mg b : Nat) : Int) := by
   rw [Ct h, aiX l2 (by omega), adh (by omega) l2, Nat.or_comm, Ot hfr, em, Nat.one_mul, Nat.add_comm]
  rw [← hx] at c7; have exl := Fm.nN (f := f) (b := b)
  have he : IntKind.wrap .i64 (f.low + IntKind.wrap .i64 (IntKind.wrap .i64 ((f.ex b : Nat) : Int) - 1)) = f.pl b := by
   rw [wI (x := ((f.ex b : Nat) : Int)) (by omega) (by omega), wI (x := _ - 1) (by omega) (by omega), wI (by omega) (by omega), ep]; omega
  have c8' : Snd Try.prog 56 [.g [.b (f.sn b), nA (f.mg b), iA (IntKind.wrap .i64 (f.low + IntKind.wrap .i64 (IntKind.wrap .i64 ((f.ex b : Nat) : Int) - 1)))]] (rA ((f.raw b).plain, 0)) := by rw [he]; exact c8
  repeat (conv => whnf); first | refine dO ?_ | refine dP ?_ | refine ⟨_, c1, ?_⟩ | refine ⟨_, c2, ?_⟩ | refine ⟨_, c3, ?_⟩ | refine ⟨_, c4, ?_⟩ | refine ⟨_, c5, ?_⟩ | refine ⟨_, c6, ?_⟩ | refine ⟨_, c7, ?_⟩ | refine ⟨_, c8', ?_⟩ | refine fJ z2 ?_ | refine iU z3 ?_ | refine And.intro z ?_ | refine And.intro (by kernel_rfl) ?_ | refine And.intro (by decide) ?_
  rfl
 ·rw [decide_eq_false h3] at z3; have hex : f.ex b = 0 := Fm.Xf.2 (by omega); have em : f.mg b = f.fr b := if_pos hex; have ep : f.pl b = f.low := if_pos hex; rw [em] at c7
  have c8' : Snd Try.prog 56 [.g [.b (f.sn b), nA (f.fr b), iA f.low]] (rA ((f.raw b).plain, 0)) := by rw [← em, ← ep]; exact c8
  repeat (conv => whnf); first | refine dO ?_ | refine dP ?_ | refine ⟨_, c1, ?_⟩ | refine ⟨_, c2, ?_⟩ | refine ⟨_, c3, ?_⟩ | refine ⟨_, c4, ?_⟩ | refine ⟨_, c5, ?_⟩ | refine ⟨_, c6, ?_⟩ | refine ⟨_, c7, ?_⟩ | refine ⟨_, c8', ?_⟩ | refine fJ z2 ?_ | refine fJ z3 ?_ | refine And.intro z ?_ | refine And.intro (by kernel_rfl) ?_ | refine And.intro (by decide) ?_
  rfl
end
end Go.Proofs.Ytkgeihbcikiedaa.A
set_option linter.unusedVariables false
set_option linter.unusedSimpArgs false
set_option linter.constructorNameAsVariable false
set_option linter.unusedSectionVars false
set_option maxRecDepth 100000
set_option maxHeartbeats 4000000
namespace Go.Proofs.Ytkgeihbcikiedaa.A
open Go.RowKit Go.Proofs.Ytkgeihbcikiedaa.P Go.Proofs.YtkgeihbcikiedaaW.PrintWords Go.Proofs.YtkgeihbcikiedaaW.PrintMore Go.Proofs.Ytkgeihbcikiedaa.N Sk Dy
def Bu (bits : Int) : Option Fm := if bits = 16 then some ⟨11, 5⟩ else if bits = 32 then some ⟨24, 8⟩ else if bits = 64 then some ⟨53, 11⟩ else none
theorem Dl {bits : Int} {f : Fm} (h : Bu bits = some f) : f.ok ∧ bits = ((f.p + f.w : Nat) : Int) := by
 unfold Bu at h
 split at h
 ·cases h; exact ⟨.inl rfl, by assumption⟩
 split at h
 ·cases h; exact ⟨.inr (.inl rfl), by assumption⟩
 split at h
 ·cases h; exact ⟨.inr (.inr rfl), by assumption⟩
 ·cases h
abbrev ofA (r : Option Fm) : AV := match r with
 | some f => .t [.g (fmA f), .a (iA 0)]
 | none => .t [.g [iA 0, iA 0, iA 0], .a (iA 1)]
theorem vI : Snd Try.prog 63 [] (.g [iA 16, iA 11, iA 5, iA 32, iA 24, iA 8, iA 64, iA 53, iA 11]) := by
 refine gD kN mixed Try.func63 Try.ntmps63 rfl (by kernel_rfl) rfl ?_
 repeat (conv => whnf); first | refine dO ?_ | refine dP ?_ | refine And.intro (by kernel_rfl) ?_ | refine And.intro (by decide) ?_
 rfl
theorem Dk (bits : Int) : Snd Try.prog 32 [.a (iA bits)] (ofA (Bu bits)) := by
 refine gD kN mixed Try.func32 Try.ntmps32 rfl (by kernel_rfl) rfl ?_; unfold Bu
 by_cases h1 : bits = 16
 ·subst h1
  repeat (conv => whnf); first | refine ⟨5, ?_⟩ | refine dO ?_ | refine dP ?_ | refine ⟨_, vI, ?_⟩ | refine And.intro (by kernel_rfl) ?_ | refine And.intro (by decide) ?_
  rfl
 have z1 : ((16 : Int) == bits) = false := by rw [beq_eq_false_iff_ne]; omega
 rw [if_neg h1]
 by_cases h2 : bits = 32
 ·subst h2
  repeat (conv => whnf); first | refine ⟨5, ?_⟩ | refine dO ?_ | refine dP ?_ | refine ⟨_, vI, ?_⟩ | refine And.intro (by kernel_rfl) ?_ | refine And.intro (by decide) ?_
  rfl
 have z2 : ((32 : Int) == bits) = false := by rw [beq_eq_false_iff_ne]; omega
 rw [if_neg h2]
 by_cases h3 : bits = 64
 ·subst h3
  repeat (conv => whnf); first | refine ⟨5, ?_⟩ | refine dO ?_ | refine dP ?_ | refine ⟨_, vI, ?_⟩ | refine And.intro (by kernel_rfl) ?_ | refine And.intro (by decide) ?_
  rfl
 have z3 : ((64 : Int) == bits) = false := by rw [beq_eq_false_iff_ne]; omega
 rw [if_neg h3]
 repeat (conv => whnf); first | refine ⟨5, ?_⟩ | refine dO ?_ | refine dP ?_ | refine ⟨_, vI, ?_⟩ | refine fJ z1 ?_ | refine fJ z2 ?_ | refine fJ z3 ?_ | refine And.intro (by kernel_rfl) ?_ | refine And.intro (by decide) ?_
 rfl
theorem FC (bits : Int) : Snd Try.prog 33 [.a (iA bits)] (ofA (Bu bits)) := by
 refine gD kN mixed Try.func33 Try.ntmps33 rfl (by kernel_rfl) rfl ?_; unfold Bu
 by_cases h1 : bits = 16
 ·subst h1
  repeat (conv => whnf); first | refine dO ?_ | refine dP ?_ | refine And.intro (by kernel_rfl) ?_ | refine And.intro (by decide) ?_
  rfl
 have z1 : (bits == (16 : Int)) = false := by rw [beq_eq_false_iff_ne]; omega
 rw [if_neg h1]
 by_cases h2 : bits = 32
 ·subst h2
  repeat (conv => whnf); first | refine dO ?_ | refine dP ?_ | refine And.intro (by kernel_rfl) ?_ | refine And.intro (by decide) ?_
  rfl
 have z2 : (bits == (32 : Int)) = false := by rw [beq_eq_false_iff_ne]; omega
 rw [if_neg h2]
 by_cases h3 : bits = 64
 ·subst h3
  repeat (conv => whnf); first | refine dO ?_ | refine dP ?_ | refine And.intro (by kernel_rfl) ?_ | refine And.intro (by decide) ?_
  rfl
 have z3 : (bits == (64 : Int)) = false := by rw [beq_eq_false_iff_ne]; omega
 rw [if_neg h3]
 repeat (conv => whnf); first | refine dO ?_ | refine dP ?_ | refine fJ z1 ?_ | refine fJ z2 ?_ | refine fJ z3 ?_ | refine And.intro (by kernel_rfl) ?_ | refine And.intro (by decide) ?_
 rfl
theorem wX {k : Nat} (hk : k ∈ [4, 5, 7, 8, 9, 10, 11, 15, 22, 23, 31, 51, 52, 63]) : Snd Try.prog 52 [.a (iA k)] (.a (uA (2 ^ k))) := by
 refine gD kN mixed Try.func52 Try.ntmps52 rfl (by kernel_rfl) rfl ?_; simp only [List.mem_cons, List.not_mem_nil, or_false] at hk
 rcases hk with rfl | rfl | rfl | rfl | rfl | rfl | rfl | rfl | rfl | rfl | rfl | rfl | rfl | rfl
 all_goals
  repeat (conv => whnf); first | refine ⟨70, ?_⟩ | refine dO ?_ | refine dP ?_ | refine And.intro (by kernel_rfl) ?_ | refine And.intro (by decide) ?_
  rfl
theorem RL (m n : Nat) : Int.tmod (m : Int) (n : Int) = ((m % n : Nat) : Int) := rfl
theorem adW {m n : Nat} (hm : m < 2 ^ 64) : IntKind.wrap .u64 (Int.tdiv (m : Int) (n : Int)) = ((m / n : Nat) : Int) := by
 rw [show Int.tdiv (m : Int) (n : Int) = ((m / n : Nat) : Int) from rfl]; have := Nat.div_le_self m n; generalize m / n = q at *; exact wU (by omega) (by omega)
section
variable {f : Fm} (h : f.ok)
include h
theorem adX : Snd Try.prog 52 [.a (iA (IntKind.wrap .i64 ((f.p : Int) - 1)))] (.a (uA (2 ^ (f.p - 1)))) := by
 rw [Ct h]; exact wX (by rcases h with rfl | rfl | rfl <;> decide)
theorem adY : Snd Try.prog 52 [.a (iA (IntKind.wrap .i64 ((f.p : Int) - 2)))] (.a (uA (2 ^ (f.p - 2)))) := by
 rw [RG h]; exact wX (by rcases h with rfl | rfl | rfl <;> decide)
theorem adZ : Snd Try.prog 52 [.a (iA (f.w : Int))] (.a (uA (2 ^ f.w))) := wX (by rcases h with rfl | rfl | rfl <;> decide)
def sb (f : Fm) (b : Nat) : Nat := b / 2 ^ (f.p - 1) / 2 ^ f.w % 2
omit h in
theorem RN (k : Nat) : ((2 ^ k : Nat) : Int) ≠ 0 := by have := Nat.two_pow_pos k; omega
theorem qI {b : Nat} (hb : b < 2 ^ 64) : Snd Try.prog 24 [.g (fmA f), .a (uA b)] (.t [.a (uA (sb f b)), .a (uA (f.ex b)), .a (uA (f.fr b)), .a (.b (decide (2 ^ (f.p + f.w) ≤ b)))]) := by
 have hB := Fm.bounds h; have c1 := adX h; have c2 := adZ h; have n1 := RN (f.p - 1); have n2 := RN f.w; refine gD kN mixed Try.func24 Try.ntmps24 rfl (by kernel_rfl) rfl ?_
 repeat (conv => whnf); first | refine dO ?_ | refine dP ?_ | refine ⟨_, c1, ?_⟩ | refine ⟨_, c2, ?_⟩ | refine And.intro n1 ?_ | refine And.intro n2 ?_ | refine And.intro (by kernel_rfl) ?_ | refine And.intro (by decide) ?_
 show AV.t [.a (.i .u64 (Int.tmod (IntKind.wrap .u64 (Int.tdiv (IntKind.wrap .u64 (Int.tdiv (b : Int) ((2 ^ (f.p - 1) : Nat) : Int))) ((2 ^ f.w : Nat) : Int))) ((2 : Nat) : Int))), .a (.i .u64 (Int.tmod (IntKind.wrap .u64 (Int.tdiv (b : Int) ((2 ^ (f.p - 1) : Nat) : Int))) ((2 ^ f.w : Nat) : Int))), .a (.i .u64 (Int.tmod (b : Int) ((2 ^ (f.p - 1) : Nat) : Int))), .a (.b (decide (IntKind.wrap .u64 (Int.tdiv (IntKind.wrap .u64 (Int.tdiv (b : Int) ((2 ^ (f.p - 1) : Nat) : Int))) ((2 ^ f.w : Nat) : Int)) > ((1 : Nat) : Int))))] = _; rw [adW hb, adW (Nat.lt_of_le_of_lt (Nat.div_le_self _ _) hb), RL, RL, RL]
 have e : decide (((b / 2 ^ (f.p - 1) / 2 ^ f.w : Nat) : Int) > ((1 : Nat) : Int)) = decide (2 ^ (f.p + f.w) ≤ b) := by
  refine decide_eq_decide.2 ?_
  rcases h with rfl | rfl | rfl <;> simp only [Nat.reduceSub, Nat.reduceAdd, Nat.reducePow] <;> omega
 rw [e]; rfl
theorem ad1 (b : Nat) : ((sb f b : Nat) : Int) = 1 ↔ f.sn b = true := by
 unfold sb Fm.sn; rw [decide_eq_true_eq]
 rcases h with rfl | rfl | rfl <;> simp only [Nat.reduceSub, Nat.reduceAdd, Nat.reducePow] <;> omega
theorem adg (b : Nat) : (((sb f b : Nat) : Int) == 1) = f.sn b := by
 have := ad1 h b; cases hs : f.sn b
 ·rw [beq_eq_false_iff_ne]; intro e; rw [this.1 e] at hs; cases hs
 ·rw [beq_iff_eq]; exact this.2 hs
theorem Tx {b : Nat} (hb : b < 2 ^ 64) : Snd Try.prog 35 [.g (fmA f), .a (uA b)] (.a (iA (f.cl b))) := by
 have hB := Fm.bounds h; have c1 := qI h hb; have c2 := adZ h; have c3 := adY h; have z1 := HV (f.ex b) 0; have z2 := HV (f.fr b) 0; have hp : 0 < 2 ^ f.w := Nat.two_pow_pos _
 have hfull : IntKind.wrap .u64 (((2 ^ f.w : Nat) : Int) - 1) = ((2 ^ f.w - 1 : Nat) : Int) := by rw [wU (by omega) (by omega)]; omega
 have z3 : decide (((f.ex b : Nat) : Int) < IntKind.wrap .u64 (((2 ^ f.w : Nat) : Int) - 1)) = decide (f.ex b < 2 ^ f.w - 1) := by rw [hfull]; exact decide_eq_decide.2 (by omega)
 have z4 : decide (((f.fr b : Nat) : Int) ≥ ((2 ^ (f.p - 2) : Nat) : Int)) = decide (2 ^ (f.p - 2) ≤ f.fr b) := decide_eq_decide.2 (by omega); refine gD kN mixed Try.func35 Try.ntmps35 rfl (by kernel_rfl) rfl ?_
 by_cases h1 : f.ex b = 0
 ·rw [decide_eq_true h1] at z1
  by_cases h2 : f.fr b = 0
  ·rw [decide_eq_true h2] at z2; rw [show f.cl b = 0 by unfold Fm.cl; rw [if_pos h1, if_pos h2]]
   repeat (conv => whnf); first | refine dO ?_ | refine dP ?_ | refine ⟨_, c1, ?_⟩ | refine ⟨_, c2, ?_⟩ | refine ⟨_, c3, ?_⟩ | refine iU z1 ?_ | refine iU z2 ?_ | refine And.intro (by kernel_rfl) ?_ | refine And.intro (by decide) ?_
   rfl
  ·rw [decide_eq_false h2] at z2; rw [show f.cl b = 1 by unfold Fm.cl; rw [if_pos h1, if_neg h2]]
   repeat (conv => whnf); first | refine dO ?_ | refine dP ?_ | refine ⟨_, c1, ?_⟩ | refine ⟨_, c2, ?_⟩ | refine ⟨_, c3, ?_⟩ | refine iU z1 ?_ | refine fJ z2 ?_ | refine And.intro (by kernel_rfl) ?_ | refine And.intro (by decide) ?_
   rfl
 rw [decide_eq_false h1] at z1
 by_cases h3 : f.ex b < 2 ^ f.w - 1
 ·rw [decide_eq_true h3] at z3; rw [show f.cl b = 2 by unfold Fm.cl; rw [if_neg h1, if_pos h3]]
  repeat (conv => whnf); first | refine dO ?_ | refine dP ?_ | refine ⟨_, c1, ?_⟩ | refine ⟨_, c2, ?_⟩ | refine ⟨_, c3, ?_⟩ | refine fJ z1 ?_ | refine iU z3 ?_ | refine And.intro (by kernel_rfl) ?_ | refine And.intro (by decide) ?_
  rfl
 rw [decide_eq_false h3] at z3
 by_cases h2 : f.fr b = 0
 ·rw [decide_eq_true h2] at z2; rw [show f.cl b = 3 by unfold Fm.cl; rw [if_neg h1, if_neg h3, if_pos h2]]
  repeat (conv => whnf); first | refine dO ?_ | refine dP ?_ | refine ⟨_, c1, ?_⟩ | refine ⟨_, c2, ?_⟩ | refine ⟨_, c3, ?_⟩ | refine fJ z1 ?_ | refine fJ z3 ?_ | refine iU z2 ?_ | refine And.intro (by kernel_rfl) ?_ | refine And.intro (by decide) ?_
  rfl
 rw [decide_eq_false h2] at z2
 by_cases h4 : 2 ^ (f.p - 2) ≤ f.fr b
 ·rw [decide_eq_true h4] at z4; rw [show f.cl b = 4 by unfold Fm.cl; rw [if_neg h1, if_neg h3, if_neg h2, if_pos h4]]
  repeat (conv => whnf); first | refine dO ?_ | refine dP ?_ | refine ⟨_, c1, ?_⟩ | refine ⟨_, c2, ?_⟩ | refine ⟨_, c3, ?_⟩ | refine fJ z1 ?_ | refine fJ z3 ?_ | refine fJ z2 ?_ | refine iU z4 ?_ | refine And.intro (by kernel_rfl) ?_ | refine And.intro (by decide) ?_
  rfl
 ·rw [decide_eq_false h4] at z4; rw [show f.cl b = 5 by unfold Fm.cl; rw [if_neg h1, if_neg h3, if_neg h2, if_neg h4]]
  repeat (conv => whnf); first | refine dO ?_ | refine dP ?_ | refine ⟨_, c1, ?_⟩ | refine ⟨_, c2, ?_⟩ | refine ⟨_, c3, ?_⟩ | refine fJ z1 ?_ | refine fJ z3 ?_ | refine fJ z2 ?_ | refine fJ z4 ?_ | refine And.intro (by kernel_rfl) ?_ | refine And.intro (by decide) ?_
  rfl
end
end Go.Proofs.Ytkgeihbcikiedaa.A
