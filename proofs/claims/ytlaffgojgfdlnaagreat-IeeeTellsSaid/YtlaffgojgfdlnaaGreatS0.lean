/- The contracts of package nat and of its reference, for all lists of 32-bit parts of at most a hundred thousand parts, and the types that the contracts name. -/
import Derived.Test.YtlaffgojgfdlnaaGreatB0
import Derived.Test.YtlaffgojgfdlnaaGreatN7
import Derived.Test.YtlaffgojgfdlnaaGreatProg
import Derived.Laws.BitsLemmas
import Derived.Test.YtlaffgojgfdlnaaGreatPx1
import Derived.Test.YtlaffgojgfdlnaaGreatPx2
import Derived.Test.YtlaffgojgfdlnaaGreatPx3
import Derived.Test.YtlaffgojgfdlnaaGreatPx4
set_option linter.unusedVariables false
set_option linter.unusedSimpArgs false
set_option linter.constructorNameAsVariable false
set_option maxRecDepth 100000
set_option maxHeartbeats 4000000
namespace Go.Proofs.YtlaffgojgfdlnaaGreat.A
open Go.RowKit Go.Proofs.YtlaffgojgfdlnaaGreat.P Go.Proofs.YtlaffgojgfdlnaaGreatW.PrintWords Go.Proofs.YtlaffgojgfdlnaaGreatW.PrintMore Go.Proofs.YtlaffgojgfdlnaaGreat.N Sk
/-! ### The seat's types, and the contracts of nat and of its reference -/
def tt : TT := [(2, ⟨(.int .i64), 1, [.i .i64 0]⟩),
  (3, ⟨(.int .i64), 1, [.i .i64 0]⟩),
  (4, ⟨.bool, 1, [.b false]⟩),
  (5, ⟨(.int .u8), 1, [.i .u8 0]⟩),
  (6, ⟨(.int .u8), 1, [.i .u8 0]⟩),
  (7, ⟨(.struct [(0, 2), (1, 3), (2, 4), (3, 6)]), 4, [.i .i64 0, .i .i64 0, .b false, .i .u8 0]⟩),
  (8, ⟨(.struct [(0, 2), (1, 3), (2, 4), (3, 6)]), 4, [.i .i64 0, .i .i64 0, .b false, .i .u8 0]⟩),
  (12, ⟨(.int .u64), 1, [.i .u64 0]⟩),
  (21, ⟨(.int .i32), 1, [.i .i32 0]⟩),
  (22, ⟨(.int .u64), 1, [.i .u64 0]⟩),
  (24, ⟨(.struct [(0, 3), (1, 3), (2, 3)]), 3, [.i .i64 0, .i .i64 0, .i .i64 0]⟩),
  (25, ⟨(.struct [(0, 3), (1, 3), (2, 3)]), 3, [.i .i64 0, .i .i64 0, .i .i64 0]⟩),
  (26, ⟨(.int .i64), 1, [.i .i64 0]⟩),
  (29, ⟨(.struct [(0, 3), (1, 3), (2, 3)]), 3, [.i .i64 0, .i .i64 0, .i .i64 0]⟩),
  (40, ⟨(.array 3 25), 9, [.i .i64 0, .i .i64 0, .i .i64 0, .i .i64 0, .i .i64 0, .i .i64 0, .i .i64 0, .i .i64 0, .i .i64 0]⟩),
  (47, ⟨(.slice 22), 1, [.v .u64 []]⟩),
  (54, ⟨(.slice 103), 1, [.v .u32 []]⟩),
  (55, ⟨(.slice 103), 1, [.v .u32 []]⟩),
  (56, ⟨(.struct [(0, 4), (1, 55), (2, 3)]), 3, [.b false, .v .u32 [], .i .i64 0]⟩),
  (57, ⟨(.struct [(0, 4), (1, 55), (2, 3)]), 3, [.b false, .v .u32 [], .i .i64 0]⟩),
  (69, ⟨(.slice 4), 1, [.w []]⟩),
  (70, ⟨(.slice 4), 1, [.w []]⟩),
  (71, ⟨(.struct [(0, 4), (1, 70), (2, 3)]), 3, [.b false, .w [], .i .i64 0]⟩),
  (72, ⟨(.struct [(0, 4), (1, 70), (2, 3)]), 3, [.b false, .w [], .i .i64 0]⟩),
  (77, ⟨(.int .u64), 1, [.i .u64 0]⟩),
  (103, ⟨(.int .u32), 1, [.i .u32 0]⟩),
  (150, ⟨(.int .u8), 1, [.i .u8 0]⟩),
  (151, ⟨(.int .u8), 1, [.i .u8 0]⟩),
  (154, ⟨(.int .i32), 1, [.i .i32 0]⟩),
  (155, ⟨(.int .i32), 1, [.i .i32 0]⟩)]
theorem ttOk : tt.okB Tryz.prog = true := by kernel_rfl
theorem mixed : Tryz.prog.follows .mixedOrders = true := by kernel_rfl
section
variable {ok : Nat → Prop} {w w' : World} {vs : List Value}
theorem args1 {x : AV} (h : RVs [] ok w [x] vs) : ∃ v, vs = [v] ∧ x.R [] ok w v := by
  match vs, h with
  | [v], h => exact ⟨v, rfl, h.1⟩
  | _ :: _ :: _, h => exact h.2.elim
theorem args2 {x y : AV} (h : RVs [] ok w [x, y] vs) : ∃ v u, vs = [v, u] ∧ x.R [] ok w v ∧ y.R [] ok w u := by
  match vs, h with
  | [v, u], h => exact ⟨v, u, rfl, h.1, h.2.1⟩
  | [_], h => exact h.2.elim
  | _ :: _ :: _ :: _, h => exact h.2.2.elim
end
theorem wI {x : Int} (h0 : -9223372036854775808 ≤ x) (h1 : x < 9223372036854775808) : IntKind.wrap .i64 x = x := by
  rw [IntKind.wrap_i64]; omega
theorem wU {x : Int} (h0 : 0 ≤ x) (h1 : x < 18446744073709551616) : IntKind.wrap .u64 x = x := by
  rw [show IntKind.wrap .u64 x = x % 18446744073709551616 by simp [IntKind.wrap, IntKind.bits, IntKind.signed]]; omega
/-- A number, as its parts; as its bits. -/
abbrev nA (n : Nat) : AA := .v .u32 (parts n)
abbrev bA (n : Nat) : AA := .w (bts n)
abbrev iA (x : Int) : AA := .i .i64 x
theorem len_snd {l : List Int} (h : Ok l) (hl : l.length ≤ 100000) : Snd Tryz.prog 35 [.a (.v .u32 l)] (.a (iA (nlen (nv l)))) := by
  obtain ⟨K, hK⟩ := len_ev h (by omega)
  refine ⟨⟨_, Tryz.func35, by kernel_rfl, rfl⟩, fun w Pk vs hvs => ?_⟩
  obtain ⟨v, rfl, A, c, rfl, hc, hf⟩ := args1 hvs
  refine (nat_Nat_Len.calls K A c l _ w (Kd.F_now hf) hc (hK K (Nat.le_refl _))).mono ?_
  rintro e w' ⟨rfl, hb⟩
  exact ⟨_, rfl, rfl, hb⟩
theorem zeros_snd {l : List Int} (h : Ok l) (hl : l.length ≤ 100000) : Snd Tryz.prog 112 [.a (.v .u32 l)] (.a (iA (tz (nv l)))) := by
  obtain ⟨K, hK⟩ := zeros_ev h (by omega)
  refine ⟨⟨_, Tryz.func112, by kernel_rfl, rfl⟩, fun w Pk vs hvs => ?_⟩
  obtain ⟨v, rfl, A, c, rfl, hc, hf⟩ := args1 hvs
  refine (nat_Nat_Zeros.calls K A c l _ w (Kd.F_now hf) hc (hK K (Nat.le_refl _))).mono ?_
  rintro e w' ⟨rfl, hb⟩
  exact ⟨_, rfl, rfl, hb.below⟩
theorem right_snd {l : List Int} (h : Ok l) (hl : l.length ≤ 100000) (n : Int) : Snd Tryz.prog 99 [.a (.v .u32 l), .a (iA n)] (.t [.a (nA (rightN (nv l) n)), .a (.b (rightL (nv l) n))]) := by
  obtain ⟨K, hK⟩ := right_ev h hl n
  refine ⟨⟨_, Tryz.func99, by kernel_rfl, rfl⟩, fun w Pk vs hvs => ?_⟩
  obtain ⟨v, u, rfl, ⟨A, c, rfl, hc, hf⟩, rfl⟩ := args2 hvs
  refine (nat_Nat_Right.calls K A c l n _ _ w (Kd.F_now hf) hc (hK K (Nat.le_refl _))).mono ?_
  rintro e w' ⟨v, rfl, hv, hb⟩
  exact ⟨_, rfl, ⟨_, rfl, Kd.V_mono hv (fun k hk => .inr hk), rfl, trivial⟩, hb⟩
theorem left_snd {l : List Int} (h : Ok l) (hl : l.length ≤ 100000) (n : Int) (h0 : -9223372036854775808 ≤ n) (h1 : n < 9223372036854775808) :
    Snd Tryz.prog 98 [.a (.v .u32 l), .a (iA n)] (.t [.a (.v .u32 (leftR (nv l) n).1), .a (iA (leftR (nv l) n).2)]) := by
  obtain ⟨K, hK⟩ := left_ev h hl n h0 h1
  refine ⟨⟨_, Tryz.func98, by kernel_rfl, rfl⟩, fun w Pk vs hvs => ?_⟩
  obtain ⟨v, u, rfl, ⟨A, c, rfl, hc, hf⟩, rfl⟩ := args2 hvs
  refine (nat_Nat_Left.calls K A c l n _ _ w (Kd.F_now hf) hc (hK K (Nat.le_refl _))).mono ?_
  rintro e w' ⟨v, rfl, hv, hb⟩
  exact ⟨_, rfl, ⟨_, rfl, Kd.V_mono hv (fun k hk => .inr hk), rfl, trivial⟩, hb⟩
theorem add_snd {a b : List Int} (ha : Ok a) (hb : Ok b) (la : a.length ≤ 100000) (lb : b.length ≤ 100000) : Snd Tryz.prog 65 [.a (.v .u32 a), .a (.v .u32 b)] (.a (nA (nv a + nv b))) := by
  obtain ⟨K, hK⟩ := add_ev ha hb la lb
  refine ⟨⟨_, Tryz.func65, by kernel_rfl, rfl⟩, fun w Pk vs hvs => ?_⟩
  obtain ⟨v, u, rfl, ⟨A, c, rfl, hc, hf⟩, ⟨A', c', rfl, hc', hf'⟩⟩ := args2 hvs
  refine (nat_Add.calls K A c a A' c' b _ w (Kd.F_now hf) hc (Kd.F_now hf') hc' (hK K (Nat.le_refl _))).mono ?_
  rintro e w' ⟨v, rfl, hv, hb⟩
  exact ⟨_, rfl, Kd.V_mono hv (fun k hk => .inr hk), hb⟩
theorem cmp_snd {a b : List Int} (ha : Ok a) (hb : Ok b) (la : a.length ≤ 100000) (lb : b.length ≤ 100000) : Snd Tryz.prog 71 [.a (.v .u32 a), .a (.v .u32 b)] (.a (iA (sg (nv a) (nv b)))) := by
  obtain ⟨K, hK⟩ := cmp_ev ha hb (by omega) (by omega)
  refine ⟨⟨_, Tryz.func71, by kernel_rfl, rfl⟩, fun w Pk vs hvs => ?_⟩
  obtain ⟨v, u, rfl, ⟨A, c, rfl, hc, hf⟩, ⟨A', c', rfl, hc', hf'⟩⟩ := args2 hvs
  refine (nat_Cmp.calls K A c a A' c' b _ w (Kd.F_now hf) hc (Kd.F_now hf') hc' (hK K (Nat.le_refl _))).mono ?_
  rintro e w' ⟨rfl, hb⟩
  exact ⟨_, rfl, rfl, hb⟩
theorem sub_snd {a b : List Int} (ha : Ok a) (hb : Ok b) (la : a.length ≤ 100000) (lb : b.length ≤ 100000) (h : nv b ≤ nv a) : Snd Tryz.prog 72 [.a (.v .u32 a), .a (.v .u32 b)] (.t [.a (nA (nv a - nv b)), .a (iA 0)]) := by
  obtain ⟨K, hK⟩ := sub_ev ha hb la lb
  rw [if_neg (by omega)] at hK
  refine ⟨⟨_, Tryz.func72, by kernel_rfl, rfl⟩, fun w Pk vs hvs => ?_⟩
  obtain ⟨v, u, rfl, ⟨A, c, rfl, hc, hf⟩, ⟨A', c', rfl, hc', hf'⟩⟩ := args2 hvs
  refine (nat_Sub.calls K A c a A' c' b _ _ w (Kd.F_now hf) hc (Kd.F_now hf') hc' (hK K (Nat.le_refl _))).mono ?_
  rintro e w' ⟨v, rfl, hv, hb⟩
  exact ⟨_, rfl, ⟨_, rfl, Kd.V_mono hv (fun k hk => .inr hk), rfl, trivial⟩, hb⟩
theorem mul_snd {a b : List Int} (ha : Ok a) (hb : Ok b) (la : a.length ≤ 100000) (lb : b.length ≤ 100000) (h : nlen (nv a) + nlen (nv b) ≤ 16384) : Snd Tryz.prog 58 [.a (.v .u32 a), .a (.v .u32 b)] (.t [.a (nA (nv a * nv b)), .a (iA 0)]) := by
  obtain ⟨K, hK⟩ := mul_ev ha hb la lb
  rw [if_neg (by omega)] at hK
  refine ⟨⟨_, Tryz.func58, by kernel_rfl, rfl⟩, fun w Pk vs hvs => ?_⟩
  obtain ⟨v, u, rfl, ⟨A, c, rfl, hc, hf⟩, ⟨A', c', rfl, hc', hf'⟩⟩ := args2 hvs
  refine (nat_Mul.calls K Pk A c a Pk A' c' b _ _ w ⟨A, c, rfl, hc, hf⟩ ⟨A', c', rfl, hc', hf'⟩ (hK K (Nat.le_refl _))).mono ?_
  rintro e w' ⟨v, rfl, hv, hb⟩
  exact ⟨_, rfl, ⟨_, rfl, Kd.V_mono hv (fun k hk => hk.imp (fun z => z.elim id id) id), rfl, trivial⟩, hb⟩
theorem of_snd {n : Int} (h0 : 0 ≤ n) (h1 : n < 18446744073709551616) : Snd Tryz.prog 56 [.a (.i .u64 n)] (.a (nA n.toNat)) := by
  obtain ⟨K, hK⟩ := of_ev h0 h1
  refine ⟨⟨_, Tryz.func56, by kernel_rfl, rfl⟩, fun w Pk vs hvs => ?_⟩
  obtain ⟨v, rfl, rfl⟩ := args1 hvs
  refine (nat_Of.calls K n _ w (hK K (Nat.le_refl _))).mono ?_
  rintro e w' ⟨v, rfl, hv, hb⟩
  exact ⟨_, rfl, Kd.V_mono hv (fun k hk => .inr hk), hb⟩
theorem rword_snd {n : Int} (h0 : 0 ≤ n) (h1 : n < 18446744073709551616) : Snd Tryz.prog 76 [.a (.i .u64 n)] (.a (bA n.toNat)) := by
  obtain ⟨K, hK⟩ := rword_ev h0 h1
  refine ⟨⟨_, Tryz.func76, by kernel_rfl, rfl⟩, fun w Pk vs hvs => ?_⟩
  obtain ⟨v, rfl, rfl⟩ := args1 hvs
  refine (slipstickref01_Word.calls K n _ w (hK K (Nat.le_refl _))).mono ?_
  rintro e w' ⟨v, rfl, hv, hb⟩
  exact ⟨_, rfl, Kd.V_mono (Kd.R_V (base' := 0) (Kd.R_bound hv)) (fun k hk => .inr hk.2.1), hb⟩
theorem rzeros_snd {n : Nat} (hn : nlen n ≤ 10000000) : Snd Tryz.prog 104 [.a (bA n)] (.a (iA (tz n))) := by
  obtain ⟨K, hK⟩ := rzeros_ev n hn
  refine ⟨⟨_, Tryz.func104, by kernel_rfl, rfl⟩, fun w Pk vs hvs => ?_⟩
  obtain ⟨v, rfl, A, c, rfl, hc, hf⟩ := args1 hvs
  refine (slipstickref01_Zeros.calls K A c _ _ w (Kd.F_now hf) hc (hK K (Nat.le_refl _))).mono ?_
  rintro e w' ⟨rfl, hb⟩
  exact ⟨_, rfl, rfl, hb.below⟩
end Go.Proofs.YtlaffgojgfdlnaaGreat.A
