/- The contracts of package nat and of its reference, for all lists of 32-bit parts of at most a hundred thousand parts, and the types that the contracts name. -/
import Derived.Test.YtlaffgojgfdlnaaB0
import Derived.Test.YtlaffgojgfdlnaaN7
import Derived.Test.YtlaffgojgfdlnaaProg
import Derived.Laws.BitsLemmas
import Derived.Test.YtlaffgojgfdlnaaPx1
import Derived.Test.YtlaffgojgfdlnaaPx2
import Derived.Test.YtlaffgojgfdlnaaPx3
import Derived.Test.YtlaffgojgfdlnaaPx4
set_option linter.unusedVariables false
set_option linter.unusedSimpArgs false
set_option linter.constructorNameAsVariable false
set_option maxRecDepth 100000
set_option maxHeartbeats 4000000
namespace Go.Proofs.Ytlaffgojgfdlnaa.A
open Go.RowKit Go.Proofs.Ytlaffgojgfdlnaa.P Go.Proofs.YtlaffgojgfdlnaaW.PrintWords Go.Proofs.YtlaffgojgfdlnaaW.PrintMore Go.Proofs.Ytlaffgojgfdlnaa.N Sk
/-! ### The seat's types, and the contracts of nat and of its reference -/
def tt : TT := [(2, ⟨(.int .i64), 1, [.i .i64 0]⟩),
  (3, ⟨(.int .i64), 1, [.i .i64 0]⟩),
  (4, ⟨.bool, 1, [.b false]⟩),
  (5, ⟨(.int .u8), 1, [.i .u8 0]⟩),
  (6, ⟨(.int .u8), 1, [.i .u8 0]⟩),
  (7, ⟨(.struct [(0, 2), (1, 3), (2, 4), (3, 6)]), 4, [.i .i64 0, .i .i64 0, .b false, .i .u8 0]⟩),
  (8, ⟨(.struct [(0, 2), (1, 3), (2, 4), (3, 6)]), 4, [.i .i64 0, .i .i64 0, .b false, .i .u8 0]⟩),
  (12, ⟨(.int .u64), 1, [.i .u64 0]⟩),
  (21, ⟨(.int .i32), 1, [.i .i32 0]⟩),
  (22, ⟨(.int .u64), 1, [.i .u64 0]⟩),
  (24, ⟨(.struct [(0, 3), (1, 3), (2, 3)]), 3, [.i .i64 0, .i .i64 0, .i .i64 0]⟩),
  (25, ⟨(.struct [(0, 3), (1, 3), (2, 3)]), 3, [.i .i64 0, .i .i64 0, .i .i64 0]⟩),
  (26, ⟨(.int .i64), 1, [.i .i64 0]⟩),
  (29, ⟨(.slice 36), 1, [.nil]⟩),
  (33, ⟨(.slice 89), 1, [.v .u32 []]⟩),
  (34, ⟨(.slice 89), 1, [.v .u32 []]⟩),
  (35, ⟨(.struct [(0, 4), (1, 34), (2, 3)]), 3, [.b false, .v .u32 [], .i .i64 0]⟩),
  (36, ⟨(.struct [(0, 4), (1, 34), (2, 3)]), 3, [.b false, .v .u32 [], .i .i64 0]⟩),
  (45, ⟨(.array 2 36), 6, [.b false, .v .u32 [], .i .i64 0, .b false, .v .u32 [], .i .i64 0]⟩),
  (60, ⟨(.array 3 25), 9, [.i .i64 0, .i .i64 0, .i .i64 0, .i .i64 0, .i .i64 0, .i .i64 0, .i .i64 0, .i .i64 0, .i .i64 0]⟩),
  (62, ⟨(.slice 22), 1, [.v .u64 []]⟩),
  (85, ⟨(.int .u64), 1, [.i .u64 0]⟩),
  (89, ⟨(.int .u32), 1, [.i .u32 0]⟩),
  (107, ⟨(.int .u8), 1, [.i .u8 0]⟩),
  (108, ⟨(.int .u8), 1, [.i .u8 0]⟩),
  (111, ⟨(.int .i32), 1, [.i .i32 0]⟩),
  (112, ⟨(.int .i32), 1, [.i .i32 0]⟩)]
theorem ttOk : tt.okB Try.prog = true := by kernel_rfl
theorem mixed : Try.prog.follows .mixedOrders = true := by kernel_rfl
section
variable {ok : Nat → Prop} {w w' : World} {vs : List Value}
theorem args1 {x : AV} (h : RVs [] ok w [x] vs) : ∃ v, vs = [v] ∧ x.R [] ok w v := by
  match vs, h with
  | [v], h => exact ⟨v, rfl, h.1⟩
  | _ :: _ :: _, h => exact h.2.elim
theorem args2 {x y : AV} (h : RVs [] ok w [x, y] vs) : ∃ v u, vs = [v, u] ∧ x.R [] ok w v ∧ y.R [] ok w u := by
  match vs, h with
  | [v, u], h => exact ⟨v, u, rfl, h.1, h.2.1⟩
  | [_], h => exact h.2.elim
  | _ :: _ :: _ :: _, h => exact h.2.2.elim
end
theorem wI {x : Int} (h0 : -9223372036854775808 ≤ x) (h1 : x < 9223372036854775808) : IntKind.wrap .i64 x = x := by
  rw [IntKind.wrap_i64]; omega
theorem wU {x : Int} (h0 : 0 ≤ x) (h1 : x < 18446744073709551616) : IntKind.wrap .u64 x = x := by
  rw [show IntKind.wrap .u64 x = x % 18446744073709551616 by simp [IntKind.wrap, IntKind.bits, IntKind.signed]]; omega
/-- A number, as its parts; as its bits. -/
abbrev nA (n : Nat) : AA := .v .u32 (parts n)
abbrev bA (n : Nat) : AA := .w (bts n)
abbrev iA (x : Int) : AA := .i .i64 x
theorem len_snd {l : List Int} (h : Ok l) (hl : l.length ≤ 100000) : Snd Try.prog 38 [.a (.v .u32 l)] (.a (iA (nlen (nv l)))) := by
  obtain ⟨K, hK⟩ := len_ev h (by omega)
  refine ⟨⟨_, Try.func38, by kernel_rfl, rfl⟩, fun w Pk vs hvs => ?_⟩
  obtain ⟨v, rfl, A, c, rfl, hc, hf⟩ := args1 hvs
  refine (nat_Nat_Len.calls K A c l _ w (Kd.F_now hf) hc (hK K (Nat.le_refl _))).mono ?_
  rintro e w' ⟨rfl, hb⟩
  exact ⟨_, rfl, rfl, hb⟩
theorem zeros_snd {l : List Int} (h : Ok l) (hl : l.length ≤ 100000) : Snd Try.prog 70 [.a (.v .u32 l)] (.a (iA (tz (nv l)))) := by
  obtain ⟨K, hK⟩ := zeros_ev h (by omega)
  refine ⟨⟨_, Try.func70, by kernel_rfl, rfl⟩, fun w Pk vs hvs => ?_⟩
  obtain ⟨v, rfl, A, c, rfl, hc, hf⟩ := args1 hvs
  refine (nat_Nat_Zeros.calls K A c l _ w (Kd.F_now hf) hc (hK K (Nat.le_refl _))).mono ?_
  rintro e w' ⟨rfl, hb⟩
  exact ⟨_, rfl, rfl, hb.below⟩
theorem right_snd {l : List Int} (h : Ok l) (hl : l.length ≤ 100000) (n : Int) : Snd Try.prog 71 [.a (.v .u32 l), .a (iA n)] (.t [.a (nA (rightN (nv l) n)), .a (.b (rightL (nv l) n))]) := by
  obtain ⟨K, hK⟩ := right_ev h hl n
  refine ⟨⟨_, Try.func71, by kernel_rfl, rfl⟩, fun w Pk vs hvs => ?_⟩
  obtain ⟨v, u, rfl, ⟨A, c, rfl, hc, hf⟩, rfl⟩ := args2 hvs
  refine (nat_Nat_Right.calls K A c l n _ _ w (Kd.F_now hf) hc (hK K (Nat.le_refl _))).mono ?_
  rintro e w' ⟨v, rfl, hv, hb⟩
  exact ⟨_, rfl, ⟨_, rfl, Kd.V_mono hv (fun k hk => .inr hk), rfl, trivial⟩, hb⟩
theorem left_snd {l : List Int} (h : Ok l) (hl : l.length ≤ 100000) (n : Int) (h0 : -9223372036854775808 ≤ n) (h1 : n < 9223372036854775808) :
    Snd Try.prog 66 [.a (.v .u32 l), .a (iA n)] (.t [.a (.v .u32 (leftR (nv l) n).1), .a (iA (leftR (nv l) n).2)]) := by
  obtain ⟨K, hK⟩ := left_ev h hl n h0 h1
  refine ⟨⟨_, Try.func66, by kernel_rfl, rfl⟩, fun w Pk vs hvs => ?_⟩
  obtain ⟨v, u, rfl, ⟨A, c, rfl, hc, hf⟩, rfl⟩ := args2 hvs
  refine (nat_Nat_Left.calls K A c l n _ _ w (Kd.F_now hf) hc (hK K (Nat.le_refl _))).mono ?_
  rintro e w' ⟨v, rfl, hv, hb⟩
  exact ⟨_, rfl, ⟨_, rfl, Kd.V_mono hv (fun k hk => .inr hk), rfl, trivial⟩, hb⟩
theorem add_snd {a b : List Int} (ha : Ok a) (hb : Ok b) (la : a.length ≤ 100000) (lb : b.length ≤ 100000) : Snd Try.prog 51 [.a (.v .u32 a), .a (.v .u32 b)] (.a (nA (nv a + nv b))) := by
  obtain ⟨K, hK⟩ := add_ev ha hb la lb
  refine ⟨⟨_, Try.func51, by kernel_rfl, rfl⟩, fun w Pk vs hvs => ?_⟩
  obtain ⟨v, u, rfl, ⟨A, c, rfl, hc, hf⟩, ⟨A', c', rfl, hc', hf'⟩⟩ := args2 hvs
  refine (nat_Add.calls K A c a A' c' b _ w (Kd.F_now hf) hc (Kd.F_now hf') hc' (hK K (Nat.le_refl _))).mono ?_
  rintro e w' ⟨v, rfl, hv, hb⟩
  exact ⟨_, rfl, Kd.V_mono hv (fun k hk => .inr hk), hb⟩
theorem cmp_snd {a b : List Int} (ha : Ok a) (hb : Ok b) (la : a.length ≤ 100000) (lb : b.length ≤ 100000) : Snd Try.prog 40 [.a (.v .u32 a), .a (.v .u32 b)] (.a (iA (sg (nv a) (nv b)))) := by
  obtain ⟨K, hK⟩ := cmp_ev ha hb (by omega) (by omega)
  refine ⟨⟨_, Try.func40, by kernel_rfl, rfl⟩, fun w Pk vs hvs => ?_⟩
  obtain ⟨v, u, rfl, ⟨A, c, rfl, hc, hf⟩, ⟨A', c', rfl, hc', hf'⟩⟩ := args2 hvs
  refine (nat_Cmp.calls K A c a A' c' b _ w (Kd.F_now hf) hc (Kd.F_now hf') hc' (hK K (Nat.le_refl _))).mono ?_
  rintro e w' ⟨rfl, hb⟩
  exact ⟨_, rfl, rfl, hb⟩
theorem sub_snd {a b : List Int} (ha : Ok a) (hb : Ok b) (la : a.length ≤ 100000) (lb : b.length ≤ 100000) (h : nv b ≤ nv a) : Snd Try.prog 52 [.a (.v .u32 a), .a (.v .u32 b)] (.t [.a (nA (nv a - nv b)), .a (iA 0)]) := by
  obtain ⟨K, hK⟩ := sub_ev ha hb la lb
  rw [if_neg (by omega)] at hK
  refine ⟨⟨_, Try.func52, by kernel_rfl, rfl⟩, fun w Pk vs hvs => ?_⟩
  obtain ⟨v, u, rfl, ⟨A, c, rfl, hc, hf⟩, ⟨A', c', rfl, hc', hf'⟩⟩ := args2 hvs
  refine (nat_Sub.calls K A c a A' c' b _ _ w (Kd.F_now hf) hc (Kd.F_now hf') hc' (hK K (Nat.le_refl _))).mono ?_
  rintro e w' ⟨v, rfl, hv, hb⟩
  exact ⟨_, rfl, ⟨_, rfl, Kd.V_mono hv (fun k hk => .inr hk), rfl, trivial⟩, hb⟩
theorem mul_snd {a b : List Int} (ha : Ok a) (hb : Ok b) (la : a.length ≤ 100000) (lb : b.length ≤ 100000) (h : nlen (nv a) + nlen (nv b) ≤ 16384) : Snd Try.prog 53 [.a (.v .u32 a), .a (.v .u32 b)] (.t [.a (nA (nv a * nv b)), .a (iA 0)]) := by
  obtain ⟨K, hK⟩ := mul_ev ha hb la lb
  rw [if_neg (by omega)] at hK
  refine ⟨⟨_, Try.func53, by kernel_rfl, rfl⟩, fun w Pk vs hvs => ?_⟩
  obtain ⟨v, u, rfl, ⟨A, c, rfl, hc, hf⟩, ⟨A', c', rfl, hc', hf'⟩⟩ := args2 hvs
  refine (nat_Mul.calls K Pk A c a Pk A' c' b _ _ w ⟨A, c, rfl, hc, hf⟩ ⟨A', c', rfl, hc', hf'⟩ (hK K (Nat.le_refl _))).mono ?_
  rintro e w' ⟨v, rfl, hv, hb⟩
  exact ⟨_, rfl, ⟨_, rfl, Kd.V_mono hv (fun k hk => hk.imp (fun z => z.elim id id) id), rfl, trivial⟩, hb⟩
theorem of_snd {n : Int} (h0 : 0 ≤ n) (h1 : n < 18446744073709551616) : Snd Try.prog 48 [.a (.i .u64 n)] (.a (nA n.toNat)) := by
  obtain ⟨K, hK⟩ := of_ev h0 h1
  refine ⟨⟨_, Try.func48, by kernel_rfl, rfl⟩, fun w Pk vs hvs => ?_⟩
  obtain ⟨v, rfl, rfl⟩ := args1 hvs
  refine (nat_Of.calls K n _ w (hK K (Nat.le_refl _))).mono ?_
  rintro e w' ⟨v, rfl, hv, hb⟩
  exact ⟨_, rfl, Kd.V_mono hv (fun k hk => .inr hk), hb⟩
end Go.Proofs.Ytlaffgojgfdlnaa.A
