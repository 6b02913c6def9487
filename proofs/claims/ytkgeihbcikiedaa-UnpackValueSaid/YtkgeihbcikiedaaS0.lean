/- The contracts of package nat and of its reference, for all lists of 32-bit parts of at most a hundred thousand parts, and the types that the contracts name. -/
import Derived.Test.YtkgeihbcikiedaaB0
import Derived.Test.YtkgeihbcikiedaaN7
import Derived.Test.YtkgeihbcikiedaaProg
import Derived.Laws.BitsLemmas
import Derived.Test.YtkgeihbcikiedaaPx1
import Derived.Test.YtkgeihbcikiedaaPx6
import Derived.Test.YtkgeihbcikiedaaPx11
import Derived.Test.YtkgeihbcikiedaaPx12
import Derived.Test.YtkgeihbcikiedaaPx13
set_option linter.unusedVariables false
set_option linter.unusedSimpArgs false
set_option linter.constructorNameAsVariable false
set_option maxRecDepth 100000
set_option maxHeartbeats 4000000
namespace Go.Proofs.Ytkgeihbcikiedaa.A
open Go.RowKit Go.Proofs.Ytkgeihbcikiedaa.P Go.Proofs.YtkgeihbcikiedaaW.PrintWords Go.Proofs.YtkgeihbcikiedaaW.PrintMore Go.Proofs.Ytkgeihbcikiedaa.N Sk
def tt : TT := [(2, ⟨(.int .i64), 1, [.i .i64 0]⟩),
 (3, ⟨(.int .i64), 1, [.i .i64 0]⟩),
 (4, ⟨.bool, 1, [.b false]⟩),
 (5, ⟨(.int .u8), 1, [.i .u8 0]⟩),
 (6, ⟨(.int .u8), 1, [.i .u8 0]⟩),
 (7, ⟨(.struct [(0, 2), (1, 3), (2, 4), (3, 6)]), 4, [.i .i64 0, .i .i64 0, .b false, .i .u8 0]⟩),
 (8, ⟨(.struct [(0, 2), (1, 3), (2, 4), (3, 6)]), 4, [.i .i64 0, .i .i64 0, .b false, .i .u8 0]⟩),
 (12, ⟨(.int .u64), 1, [.i .u64 0]⟩),
 (21, ⟨(.int .i32), 1, [.i .i32 0]⟩),
 (22, ⟨(.int .u64), 1, [.i .u64 0]⟩),
 (24, ⟨(.struct [(0, 3), (1, 3), (2, 3)]), 3, [.i .i64 0, .i .i64 0, .i .i64 0]⟩),
 (25, ⟨(.struct [(0, 3), (1, 3), (2, 3)]), 3, [.i .i64 0, .i .i64 0, .i .i64 0]⟩),
 (26, ⟨(.struct [(0, 3), (1, 3), (2, 3)]), 3, [.i .i64 0, .i .i64 0, .i .i64 0]⟩),
 (29, ⟨(.slice 36), 1, [.nil]⟩),
 (32, ⟨(.array 4 4), 4, [.b false, .b false, .b false, .b false]⟩),
 (36, ⟨(.slice 73), 1, [.v .u32 []]⟩),
 (37, ⟨(.slice 4), 1, [.w []]⟩),
 (38, ⟨(.slice 4), 1, [.w []]⟩),
 (44, ⟨(.slice 3), 1, [.v .i64 []]⟩),
 (52, ⟨(.slice 92), 1, [.nil]⟩),
 (53, ⟨(.slice 94), 1, [.nil]⟩),
 (54, ⟨(.struct [(0, 52), (1, 53), (2, 53)]), 3, [.nil, .nil, .nil]⟩),
 (55, ⟨(.struct [(0, 52), (1, 53), (2, 53)]), 3, [.nil, .nil, .nil]⟩),
 (59, ⟨(.slice 22), 1, [.v .u64 []]⟩),
 (67, ⟨(.slice 73), 1, [.v .u32 []]⟩),
 (68, ⟨(.struct [(0, 4), (1, 67), (2, 3)]), 3, [.b false, .v .u32 [], .i .i64 0]⟩),
 (69, ⟨(.struct [(0, 4), (1, 67), (2, 3)]), 3, [.b false, .v .u32 [], .i .i64 0]⟩),
 (70, ⟨(.int .i64), 1, [.i .i64 0]⟩),
 (73, ⟨(.int .u32), 1, [.i .u32 0]⟩),
 (83, ⟨(.struct [(0, 3), (1, 44), (2, 44), (3, 3), (4, 3), (5, 3), (6, 3)]), 7, [.i .i64 0, .v .i64 [], .v .i64 [], .i .i64 0, .i .i64 0, .i .i64 0, .i .i64 0]⟩),
 (84, ⟨(.struct [(0, 3), (1, 44), (2, 44), (3, 3), (4, 3), (5, 3), (6, 3)]), 7, [.i .i64 0, .v .i64 [], .v .i64 [], .i .i64 0, .i .i64 0, .i .i64 0, .i .i64 0]⟩),
 (88, ⟨(.struct [(0, 52), (1, 53), (2, 53)]), 3, [.nil, .nil, .nil]⟩),
 (89, ⟨(.struct [(0, 52), (1, 53), (2, 53)]), 3, [.nil, .nil, .nil]⟩),
 (91, ⟨(.struct [(0, 3), (1, 3), (2, 3), (3, 3)]), 4, [.i .i64 0, .i .i64 0, .i .i64 0, .i .i64 0]⟩),
 (92, ⟨(.struct [(0, 3), (1, 3), (2, 3), (3, 3)]), 4, [.i .i64 0, .i .i64 0, .i .i64 0, .i .i64 0]⟩),
 (96, ⟨(.slice 44), 1, [.nil]⟩),
 (108, ⟨(.slice 29), 1, [.nil]⟩),
 (121, ⟨(.int .u64), 1, [.i .u64 0]⟩),
 (124, ⟨(.array 3 25), 9, [.i .i64 0, .i .i64 0, .i .i64 0, .i .i64 0, .i .i64 0, .i .i64 0, .i .i64 0, .i .i64 0, .i .i64 0]⟩),
 (167, ⟨(.int .u8), 1, [.i .u8 0]⟩),
 (168, ⟨(.int .u8), 1, [.i .u8 0]⟩),
 (171, ⟨(.int .i32), 1, [.i .i32 0]⟩),
 (172, ⟨(.int .i32), 1, [.i .i32 0]⟩)]
theorem kN : tt.okB Try.prog = true := by kernel_rfl
theorem mixed : Try.prog.follows .mixedOrders = true := by kernel_rfl
section
variable {ok : Nat → Prop} {w w' : World} {vs : List Value}
theorem Cu {x : AV} (h : RVs [] ok w [x] vs) : ∃ v, vs = [v] ∧ x.R [] ok w v := by
 match vs, h with
 | [v], h => exact ⟨v, rfl, h.1⟩
 | _ :: _ :: _, h => exact h.2.elim
theorem Nc {x y : AV} (h : RVs [] ok w [x, y] vs) : ∃ v u, vs = [v, u] ∧ x.R [] ok w v ∧ y.R [] ok w u := by
 match vs, h with
 | [v, u], h => exact ⟨v, u, rfl, h.1, h.2.1⟩
 | [_], h => exact h.2.elim
 | _ :: _ :: _ :: _, h => exact h.2.2.elim
end
theorem wI {x : Int} (h0 : -9223372036854775808 ≤ x) (h1 : x < 9223372036854775808) : IntKind.wrap .i64 x = x := by
 rw [IntKind.wrap_i64]; omega
theorem wU {x : Int} (h0 : 0 ≤ x) (h1 : x < 18446744073709551616) : IntKind.wrap .u64 x = x := by
 rw [show IntKind.wrap .u64 x = x % 18446744073709551616 by simp [IntKind.wrap, IntKind.bits, IntKind.signed]]; omega
abbrev nA (n : Nat) : AA := .v .u32 (parts n)
abbrev bA (n : Nat) : AA := .w (bts n)
abbrev iA (x : Int) : AA := .i .i64 x
theorem D9 {l : List Int} (h : Ok l) (hl : l.length ≤ 100000) : Snd Try.prog 81 [.a (.v .u32 l)] (.a (iA (bu (nv l)))) := by
 obtain ⟨K, hK⟩ := Jr h (by omega); refine ⟨⟨_, Try.func81, by kernel_rfl, rfl⟩, fun w Pk vs hvs => ?_⟩; obtain ⟨v, rfl, A, c, rfl, hc, hf⟩ := Cu hvs; refine (dV.calls K A c l _ w (Kd.mW hf) hc (hK K (Nat.le_refl _))).mono ?_; rintro e w' ⟨rfl, hb⟩; exact ⟨_, rfl, rfl, hb⟩
theorem Ov {l : List Int} (h : Ok l) (hl : l.length ≤ 100000) : Snd Try.prog 91 [.a (.v .u32 l)] (.a (iA (tz (nv l)))) := by
 obtain ⟨K, hK⟩ := Gh h (by omega); refine ⟨⟨_, Try.func91, by kernel_rfl, rfl⟩, fun w Pk vs hvs => ?_⟩; obtain ⟨v, rfl, A, c, rfl, hc, hf⟩ := Cu hvs; refine (dD.calls K A c l _ w (Kd.mW hf) hc (hK K (Nat.le_refl _))).mono ?_; rintro e w' ⟨rfl, hb⟩; exact ⟨_, rfl, rfl, hb.below⟩
theorem Ow {l : List Int} (h : Ok l) (hl : l.length ≤ 100000) (n : Int) : Snd Try.prog 92 [.a (.v .u32 l), .a (iA n)] (.t [.a (nA (zG (nv l) n)), .a (.b (JA (nv l) n))]) := by
 obtain ⟨K, hK⟩ := Qn h hl n; refine ⟨⟨_, Try.func92, by kernel_rfl, rfl⟩, fun w Pk vs hvs => ?_⟩; obtain ⟨v, u, rfl, ⟨A, c, rfl, hc, hf⟩, rfl⟩ := Nc hvs; refine (bH.calls K A c l n _ _ w (Kd.mW hf) hc (hK K (Nat.le_refl _))).mono ?_; rintro e w' ⟨v, rfl, hv, hb⟩; exact ⟨_, rfl, ⟨_, rfl, Kd.iB hv (fun k hk => .inr hk), rfl, trivial⟩, hb⟩
theorem QI {l : List Int} (h : Ok l) (hl : l.length ≤ 100000) (n : Int) (h0 : -9223372036854775808 ≤ n) (h1 : n < 9223372036854775808) :
 Snd Try.prog 93 [.a (.v .u32 l), .a (iA n)] (.t [.a (.v .u32 (Gl (nv l) n).1), .a (iA (Gl (nv l) n).2)]) := by
 obtain ⟨K, hK⟩ := Ui h hl n h0 h1; refine ⟨⟨_, Try.func93, by kernel_rfl, rfl⟩, fun w Pk vs hvs => ?_⟩; obtain ⟨v, u, rfl, ⟨A, c, rfl, hc, hf⟩, rfl⟩ := Nc hvs; refine (bL.calls K A c l n _ _ w (Kd.mW hf) hc (hK K (Nat.le_refl _))).mono ?_; rintro e w' ⟨v, rfl, hv, hb⟩; exact ⟨_, rfl, ⟨_, rfl, Kd.iB hv (fun k hk => .inr hk), rfl, trivial⟩, hb⟩
theorem Vr {a b : List Int} (ha : Ok a) (hb : Ok b) (la : a.length ≤ 100000) (lb : b.length ≤ 100000) : Snd Try.prog 83 [.a (.v .u32 a), .a (.v .u32 b)] (.a (iA (sg (nv a) (nv b)))) := by
 obtain ⟨K, hK⟩ := Zf ha hb (by omega) (by omega); refine ⟨⟨_, Try.func83, by kernel_rfl, rfl⟩, fun w Pk vs hvs => ?_⟩; obtain ⟨v, u, rfl, ⟨A, c, rfl, hc, hf⟩, ⟨A', c', rfl, hc', hf'⟩⟩ := Nc hvs; refine (iM.calls K A c a A' c' b _ w (Kd.mW hf) hc (Kd.mW hf') hc' (hK K (Nat.le_refl _))).mono ?_; rintro e w' ⟨rfl, hb⟩; exact ⟨_, rfl, rfl, hb⟩
theorem aaj {n : Int} (h0 : 0 ≤ n) (h1 : n < 18446744073709551616) : Snd Try.prog 45 [.a (.i .u64 n)] (.a (nA n.toNat)) := by
 obtain ⟨K, hK⟩ := acO h0 h1; refine ⟨⟨_, Try.func45, by kernel_rfl, rfl⟩, fun w Pk vs hvs => ?_⟩; obtain ⟨v, rfl, rfl⟩ := Cu hvs; refine (zD.calls K n _ w (hK K (Nat.le_refl _))).mono ?_; rintro e w' ⟨v, rfl, hv, hb⟩; exact ⟨_, rfl, Kd.iB hv (fun k hk => .inr hk), hb⟩
theorem Nz {a b : List Int} (hn : a.length ≤ 100000000) : Snd Try.prog 36 [.a (.v .u32 a), .a (.v .u32 b)] (.a (.b (decide (a = b)))) := by
 obtain ⟨K, hK⟩ := Qq (b := b) hn; refine ⟨⟨_, Try.func36, by kernel_rfl, rfl⟩, fun w Pk vs hvs => ?_⟩; obtain ⟨v, u, rfl, ⟨A, c, rfl, hc, hf⟩, ⟨A', c', rfl, hc', hf'⟩⟩ := Nc hvs; refine (cO.calls K A c a A' c' b _ w (Kd.mW hf) hc (Kd.mW hf') hc' (hK K (Nat.le_refl _))).mono ?_; rintro e w' ⟨rfl, hb⟩; exact ⟨_, rfl, rfl, hb.below⟩
theorem I4 {n : Nat} (hn : bu n ≤ 10000000) : Snd Try.prog 21 [.a (bA n)] (.a (nA n)) := by
 obtain ⟨K, hK⟩ := vW hn; refine ⟨⟨_, Try.func21, by kernel_rfl, rfl⟩, fun w Pk vs hvs => ?_⟩; obtain ⟨v, rfl, A, c, rfl, hc, hf⟩ := Cu hvs; refine (aR.calls K A c _ _ w (Kd.mW hf) hc (hK K (Nat.le_refl _))).mono ?_; rintro e w' ⟨v, rfl, hv, hb⟩; exact ⟨_, rfl, Kd.iB (Kd.R_V (base' := 0) (Kd.gP hv)) (fun k hk => .inr hk.2.1), hb⟩
theorem oF {n : Int} (h0 : 0 ≤ n) (h1 : n < 18446744073709551616) : Snd Try.prog 11 [.a (.i .u64 n)] (.a (bA n.toNat)) := by
 obtain ⟨K, hK⟩ := Fz h0 h1; refine ⟨⟨_, Try.func11, by kernel_rfl, rfl⟩, fun w Pk vs hvs => ?_⟩; obtain ⟨v, rfl, rfl⟩ := Cu hvs; refine (bW.calls K n _ w (hK K (Nat.le_refl _))).mono ?_; rintro e w' ⟨v, rfl, hv, hb⟩; exact ⟨_, rfl, Kd.iB (Kd.R_V (base' := 0) (Kd.gP hv)) (fun k hk => .inr hk.2.1), hb⟩
end Go.Proofs.Ytkgeihbcikiedaa.A
