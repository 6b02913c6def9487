import Derived.Test.YtlaffgojgfdlnaaS35
import Derived.Test.YtlaffgojgfdlnaaN57
import Derived.Deep.LoopGhost
import Derived.Test.YtlaffgojgfdlnaaPx0
set_option linter.unusedVariables false
set_option linter.unusedSimpArgs false
set_option linter.constructorNameAsVariable false
set_option linter.unusedSectionVars false
namespace Go.Proofs.Ytlaffgojgfdlnaa.A
open Go.RowKit Go.Proofs.Ytlaffgojgfdlnaa.P Go.Proofs.YtlaffgojgfdlnaaW.PrintWords Go.Proofs.YtlaffgojgfdlnaaW.PrintMore Go.Proofs.Ytlaffgojgfdlnaa.N Sk Dy
theorem t_i2 {ok : Nat → Prop} {w : World} {v : Value} {k1 k2 : IntKind} {a b : Int} (h : (AV.t [.a (.i k1 a), .a (.i k2 b)]).R [] ok w v) : v = .tuple #[.int k1 a, .int k2 b] := by
  obtain ⟨arr, rfl, hv⟩ := h
  obtain ⟨l, rfl⟩ : ∃ l : List Value, arr = l.toArray := ⟨arr.toList, by simp⟩
  have hv : REs [] ok w [.a (.i k1 a), .a (.i k2 b)] l := by simpa using hv
  match l, hv with
  | [x, y], ⟨hx, hy, _⟩ =>
    have hx : x = .int k1 a := hx
    have hy : y = .int k2 b := hy
    subst hx; subst hy; rfl
  | [], h => exact h.elim
  | [_], h => exact h.2.elim
  | _ :: _ :: _ :: _, h => exact h.2.2.elim
theorem t_i3 {ok : Nat → Prop} {w : World} {v : Value} {k1 k2 k3 : IntKind} {a b c : Int} (h : (AV.t [.a (.i k1 a), .a (.i k2 b), .a (.i k3 c)]).R [] ok w v) : v = .tuple #[.int k1 a, .int k2 b, .int k3 c] := by
  obtain ⟨arr, rfl, hv⟩ := h
  obtain ⟨l, rfl⟩ : ∃ l : List Value, arr = l.toArray := ⟨arr.toList, by simp⟩
  have hv : REs [] ok w [.a (.i k1 a), .a (.i k2 b), .a (.i k3 c)] l := by simpa using hv
  match l, hv with
  | [x, y, z], ⟨hx, hy, hz, _⟩ =>
    have hx : x = .int k1 a := hx
    have hy : y = .int k2 b := hy
    have hz : z = .int k3 c := hz
    subst hx; subst hy; subst hz; rfl
  | [], h => exact h.elim
  | [_], h => exact h.2.elim
  | [_, _], h => exact h.2.2.elim
  | _ :: _ :: _ :: _ :: _, h => exact h.2.2.2.elim
theorem t_g3 {ok : Nat → Prop} {w : World} {v : Value} {k1 k2 k3 k4 : IntKind} {a b c d : Int} (h : (AV.t [.g [.i k1 a, .i k2 b, .i k3 c], .a (.i k4 d)]).R [] ok w v) : v = .tuple #[.agg #[.int k1 a, .int k2 b, .int k3 c], .int k4 d] := by
  obtain ⟨arr, rfl, hv⟩ := h
  obtain ⟨l, rfl⟩ : ∃ l : List Value, arr = l.toArray := ⟨arr.toList, by simp⟩
  have hv : REs [] ok w [.g [.i k1 a, .i k2 b, .i k3 c], .a (.i k4 d)] l := by simpa using hv
  match l, hv with
  | [x, y], ⟨⟨arr2, hx, hR⟩, hy, _⟩ =>
    obtain ⟨l2, rfl⟩ : ∃ l : List Value, arr2 = l.toArray := ⟨arr2.toList, by simp⟩
    have hR : Rs [] ok w [.i k1 a, .i k2 b, .i k3 c] l2 := by simpa using hR
    match l2, hR with
    | [x1, x2, x3], ⟨h1, h2, h3, _⟩ =>
      have h1 : x1 = .int k1 a := h1
      have h2 : x2 = .int k2 b := h2
      have h3 : x3 = .int k3 c := h3
      have hy : y = .int k4 d := hy
      subst h1; subst h2; subst h3; subst hy; subst hx; rfl
    | [], h => exact h.elim
    | [_], h => exact h.2.elim
    | [_, _], h => exact h.2.2.elim
    | _ :: _ :: _ :: _ :: _, h => exact h.2.2.2.elim
  | [], h => exact h.elim
  | [_], h => exact h.2.elim
  | _ :: _ :: _ :: _, h => exact h.2.2.elim
theorem F_all {w : World} {A : Option Addr} {l : List Int} (h : Kd.C (Kd.int .u32) w A l.length l) : Kd.F (Kd.int .u32) w (fun _ => True) A l.length l := fun W' hW => by
  obtain ⟨h1, h2, h3⟩ := h
  refine ⟨h1, h2, fun hp => ?_⟩
  obtain ⟨ad, e, hc⟩ := h3 hp
  refine ⟨ad, e, fun j p hj => ?_⟩
  obtain ⟨c, c1, c2, c3⟩ := hc j p hj
  refine ⟨c, c1, c2, fun i u hi => ?_⟩
  have k := c3 i u hi
  have lt := World.block_lt_of_cell? w _ k
  have hh := hW _ trivial lt
  unfold World.cell? at k ⊢
  rw [hh]; exact k
/-- The format of three numbers. -/
theorem fm_of3 {p0 p1 p2 : Int} (hp : p0 = 16 ∧ p1 = 11 ∧ p2 = 5 ∨ p0 = 32 ∧ p1 = 24 ∧ p2 = 8 ∨ p0 = 64 ∧ p1 = 53 ∧ p2 = 11) :
    ∃ f : Fm, f = ⟨p1.toNat, p2.toNat⟩ ∧ f.ok ∧ p0 = ((f.p + f.w : Nat) : Int) ∧ p1 = ((f.p : Nat) : Int) ∧ p2 = ((f.w : Nat) : Int) := by
  rcases hp with ⟨rfl, rfl, rfl⟩ | ⟨rfl, rfl, rfl⟩ | ⟨rfl, rfl, rfl⟩
  · exact ⟨⟨11, 5⟩, rfl, .inl rfl, rfl, rfl, rfl⟩
  · exact ⟨⟨24, 8⟩, rfl, .inr (.inl rfl), rfl, rfl, rfl⟩
  · exact ⟨⟨53, 11⟩, rfl, .inr (.inr rfl), rfl, rfl, rfl⟩
end Go.Proofs.Ytlaffgojgfdlnaa.A
namespace Go.Proofs.Ytlaffgojgfdlnaa.P
open Go.RowKit Go.Proofs.YtlaffgojgfdlnaaW.PrintWords Go.Proofs.YtlaffgojgfdlnaaW.PrintLast Go.Proofs.YtlaffgojgfdlnaaW.PrintMore
attribute [local go_sem] max2_int min2_int max_two min_two max_three min_three max_four min_four
/-! ### What is called, as the print tells it -/
def slipsticklaw05_awake.f : Option (Bool) := some true
open Go.Proofs.Ytlaffgojgfdlnaa.A in
theorem slipsticklaw05_awake.calls (r1 : Bool) (w : World) (h : slipsticklaw05_awake.f = some r1) :
    Calls Try.prog 11 #[] w fun e w' => e = .returned (.bool r1) ∧ Below w.heap.size w w' := by
  cases h
  refine (awake5_snd.2 w (fun _ => False) [] trivial).mono ?_
  rintro e w' ⟨v, rfl, hv, hb⟩
  exact ⟨congrArg _ hv, hb⟩
open Go.Proofs.Ytlaffgojgfdlnaa.N Go.Proofs.Ytlaffgojgfdlnaa.A Sk Dy in
def format_Of.f (a0 : Int) : Option (Int × Int × Int × Int) := match fmOf a0 with
  | some f => some (((f.p + f.w : Nat) : Int), ((f.p : Nat) : Int), ((f.w : Nat) : Int), 0)
  | none => some (0, 0, 0, 1)
open Go.Proofs.Ytlaffgojgfdlnaa.N Go.Proofs.Ytlaffgojgfdlnaa.A Sk Dy in
theorem format_Of.calls (a0 : Int) (r1 : Int) (r2 : Int) (r3 : Int) (r4 : Int) (w : World) (h : format_Of.f a0 = some (r1, r2, r3, r4)) :
    Calls Try.prog 12 #[.int .i64 a0] w fun e w' => e = .returned (.tuple #[.agg #[.int .i64 r1, .int .i64 r2, .int .i64 r3], .int .i64 r4]) ∧ Below w.heap.size w w' := by
  refine ((fof_snd a0).2 w (fun _ => False) [.int .i64 a0] ⟨rfl, trivial⟩).mono ?_
  rintro e w' ⟨v, rfl, hv, hb⟩
  refine ⟨?_, hb⟩
  unfold format_Of.f at h
  cases hf : fmOf a0 with
  | none =>
    rw [hf] at h hv
    cases h
    rw [t_g3 hv]
  | some f =>
    rw [hf] at h hv
    cases h
    rw [t_g3 hv]
open Go.Proofs.Ytlaffgojgfdlnaa.N Go.Proofs.Ytlaffgojgfdlnaa.A Sk Dy in
def format_Form_Neg.f (p0 p1 p2 b : Int) : Option (Bool) :=
  if (p0 = 16 ∧ p1 = 11 ∧ p2 = 5 ∨ p0 = 32 ∧ p1 = 24 ∧ p2 = 8 ∨ p0 = 64 ∧ p1 = 53 ∧ p2 = 11) ∧ 0 ≤ b ∧ b < 18446744073709551616 then some (Fm.sn ⟨p1.toNat, p2.toNat⟩ b.toNat) else none
open Go.Proofs.Ytlaffgojgfdlnaa.N Go.Proofs.Ytlaffgojgfdlnaa.A Sk Dy in
theorem format_Form_Neg.calls (a0_0 : Int) (a0_1 : Int) (a0_2 : Int) (a1 : Int) (r : Bool) (w : World) (h : format_Form_Neg.f a0_0 a0_1 a0_2 a1 = some r) :
    Calls Try.prog 14 #[.agg #[.int .i64 a0_0, .int .i64 a0_1, .int .i64 a0_2], .int .u64 a1] w fun e w' => e = .returned (.bool r) ∧ Below w.heap.size w w' := by
  unfold format_Form_Neg.f at h
  split at h
  case isFalse => cases h
  rename_i hc
  obtain ⟨hp, hb0, hb1⟩ := hc
  obtain ⟨b, rfl⟩ : ∃ b : Nat, a1 = b := ⟨a1.toNat, by omega⟩
  obtain ⟨f, hf, ok, e0, e1, e2⟩ := fm_of3 hp
  rw [← hf, Int.toNat_natCast] at h
  cases h
  rw [e0, e1, e2]
  refine ((fneg_snd ok (b := b) (by omega)).2 w (fun _ => False) [.agg #[.int .i64 ((f.p + f.w : Nat) : Int), .int .i64 ((f.p : Nat) : Int), .int .i64 ((f.w : Nat) : Int)], .int .u64 ((b : Nat) : Int)] ⟨⟨_, rfl, rfl, rfl, rfl, trivial⟩, rfl, trivial⟩).mono ?_
  rintro e w' ⟨v, rfl, hv, hb⟩
  exact ⟨congrArg _ hv, hb⟩
open Go.Proofs.Ytlaffgojgfdlnaa.N Go.Proofs.Ytlaffgojgfdlnaa.A Sk Dy in
def ieee_Sub.f (p0 p1 p2 m a b : Int) : Option (Int × Int × Int) :=
  if (p0 = 16 ∧ p1 = 11 ∧ p2 = 5 ∨ p0 = 32 ∧ p1 = 24 ∧ p2 = 8 ∨ p0 = 64 ∧ p1 = 53 ∧ p2 = 11) ∧ (0 ≤ a ∧ a < 18446744073709551616) ∧ (0 ≤ b ∧ b < 18446744073709551616) then
    some (((Fm.subR ⟨p1.toNat, p2.toNat⟩ m a.toNat b.toNat).1 : Int), (Fm.subR ⟨p1.toNat, p2.toNat⟩ m a.toNat b.toNat).2.1, (Fm.subR ⟨p1.toNat, p2.toNat⟩ m a.toNat b.toNat).2.2) else none
open Go.Proofs.Ytlaffgojgfdlnaa.N Go.Proofs.Ytlaffgojgfdlnaa.A Sk Dy in
theorem ieee_Sub.calls (a0_0 : Int) (a0_1 : Int) (a0_2 : Int) (a1 : Int) (a2 : Int) (a3 : Int) (r1 : Int) (r2 : Int) (r3 : Int) (w : World) (h : ieee_Sub.f a0_0 a0_1 a0_2 a1 a2 a3 = some (r1, r2, r3)) :
    Calls Try.prog 16 #[.agg #[.int .i64 a0_0, .int .i64 a0_1, .int .i64 a0_2], .int .i64 a1, .int .u64 a2, .int .u64 a3] w fun e w' => e = .returned (.tuple #[.int .u64 r1, .int .i64 r2, .int .i64 r3]) ∧ Below w.heap.size w w' := by
  unfold ieee_Sub.f at h
  split at h
  case isFalse => cases h
  rename_i hc
  obtain ⟨hp, ⟨ha0, ha1⟩, hb0, hb1⟩ := hc
  obtain ⟨a, rfl⟩ : ∃ b : Nat, a2 = b := ⟨a2.toNat, by omega⟩
  obtain ⟨b, rfl⟩ : ∃ b : Nat, a3 = b := ⟨a3.toNat, by omega⟩
  obtain ⟨f, hf, ok, e0, e1, e2⟩ := fm_of3 hp
  rw [← hf, Int.toNat_natCast, Int.toNat_natCast] at h
  cases h
  rw [e0, e1, e2]
  refine ((isub_snd ok a1 (a := a) (b := b) (by omega) (by omega)).2 w (fun _ => False) [.agg #[.int .i64 ((f.p + f.w : Nat) : Int), .int .i64 ((f.p : Nat) : Int), .int .i64 ((f.w : Nat) : Int)], .int .i64 a1, .int .u64 ((a : Nat) : Int), .int .u64 ((b : Nat) : Int)] ⟨⟨_, rfl, rfl, rfl, rfl, trivial⟩, rfl, rfl, rfl, trivial⟩).mono ?_
  rintro e w' ⟨v, rfl, hv, hb⟩
  exact ⟨by rw [t_i3 hv], hb⟩
open Go.Proofs.Ytlaffgojgfdlnaa.N Go.Proofs.Ytlaffgojgfdlnaa.A Sk Dy in
def dyad_Cmp.f (k : Nat) (s0 : Bool) (l0 : List Int) (e0 : Int) (s1 : Bool) (l1 : List Int) (e1 : Int) : Option (Int × Int) :=
  if l0 = parts (nv l0) ∧ nlen (nv l0) ≤ 31000 ∧ l1 = parts (nv l1) ∧ nlen (nv l1) ≤ 31000 then some (Dy.cmp ⟨s0, nv l0, e0⟩ ⟨s1, nv l1, e1⟩) else none
theorem dyad_Cmp.mono : ∀ a0 a1 a2 a3 a4 a5 k, LeO (dyad_Cmp.f k a0 a1 a2 a3 a4 a5) (dyad_Cmp.f (k + 1) a0 a1 a2 a3 a4 a5) := fun _ _ _ _ _ _ _ => LeO.refl _
open Go.Proofs.Ytlaffgojgfdlnaa.N Go.Proofs.Ytlaffgojgfdlnaa.A Sk Dy in
theorem dyad_Cmp.calls (k : Nat) (a0_0 : Bool) (A0_1 : Option Addr) (c0_1 : Nat) (l0_1 : List Int) (a0_2 : Int) (a1_0 : Bool) (A1_1 : Option Addr) (c1_1 : Nat) (l1_1 : List Int) (a1_2 : Int) (r1 : Int) (r2 : Int) (w : World) (hr0_1 : Kd.C (Kd.int .u32) w A0_1 l0_1.length l0_1) (hc0_1 : l0_1.length ≤ c0_1) (hr1_1 : Kd.C (Kd.int .u32) w A1_1 l1_1.length l1_1) (hc1_1 : l1_1.length ≤ c1_1) (h : dyad_Cmp.f k a0_0 l0_1 a0_2 a1_0 l1_1 a1_2 = some (r1, r2)) :
    Calls Try.prog 15 #[.agg #[.bool a0_0, .slice A0_1 l0_1.length c0_1, .int .i64 a0_2], .agg #[.bool a1_0, .slice A1_1 l1_1.length c1_1, .int .i64 a1_2]] w fun e w' => e = .returned (.tuple #[.int .i64 r1, .int .i64 r2]) ∧ Below w.heap.size w w' := by
  unfold dyad_Cmp.f at h
  split at h
  case isFalse => cases h
  rename_i hc
  obtain ⟨p0, n0, p1, n1⟩ := hc
  have v0 : Kd.V (Kd.int .u32) 0 w 0 (fun _ => True) (.slice A0_1 l0_1.length c0_1) (parts (nv l0_1)) := by rw [← p0]; exact Kd.V_mk hc0_1 (F_all hr0_1)
  have v1 : Kd.V (Kd.int .u32) 0 w 0 (fun _ => True) (.slice A1_1 l1_1.length c1_1) (parts (nv l1_1)) := by rw [← p1]; exact Kd.V_mk hc1_1 (F_all hr1_1)
  refine ((dcmp_snd2 (a := ⟨a0_0, nv l0_1, a0_2⟩) (b := ⟨a1_0, nv l1_1, a1_2⟩) n0 n1).2 w (fun _ => True) [.agg #[.bool a0_0, .slice A0_1 l0_1.length c0_1, .int .i64 a0_2], .agg #[.bool a1_0, .slice A1_1 l1_1.length c1_1, .int .i64 a1_2]] ⟨⟨_, rfl, rfl, v0, rfl, trivial⟩, ⟨_, rfl, rfl, v1, rfl, trivial⟩, trivial⟩).mono ?_
  rintro e w' ⟨v, rfl, hv, hb⟩
  have h := Option.some.inj h
  have hv := t_i2 hv
  rw [h] at hv
  exact ⟨by rw [hv], hb⟩
/-! ### slipsticklaw05_IeeeNear: function 3 -/
mutual
def slipsticklaw05_IeeeNear.j0 : Nat → Int → Int → Int → Bool → Int → Int → Int → Option (Bool)
  | 0, _, _, _, _, _, _, _ => none
  | k + 1, x1, x2, x3, x36, x442000, x442001, x442002 => if x36 = true then (some true) else ((slipsticklaw05_finite.f k x442000 x442001 x442002 (([x2, x3] : List Int))).bind fun bt445 => (if bt445.2 = true then ((format_Form_Neg.f x442000 x442001 x442002 x2).bind fun t449 => ((format_Form_Neg.f x442000 x442001 x442002 x3).bind fun t450 => (slipsticklaw05_IeeeNear.j1 k x1 x2 x3 bt445.1 (t449 != t450) x442000 x442001 x442002))) else (slipsticklaw05_IeeeNear.j1 k x1 x2 x3 bt445.1 true x442000 x442001 x442002)))
def slipsticklaw05_IeeeNear.j1 : Nat → Int → Int → Int → List (S36) → Bool → Int → Int → Int → Option (Bool)
  | 0, _, _, _, _, _, _, _, _ => none
  | k + 1, x1, x2, x3, x11, x55, x442000, x442001, x442002 => if x55 = true then (some true) else (if 0 < (x11.length : Int) then ((some (x11.set (0 : Int).toNat (⟨false, (rd_T36 x11 0).f1, (rd_T36 x11 0).f2⟩ : S36) : List (S36))).bind fun y451 => (if 1 < (x11.length : Int) then ((some (y451.set (1 : Int).toNat (⟨false, (rd_T36 y451 1).f1, (rd_T36 y451 1).f2⟩ : S36) : List (S36))).bind fun y452 => ((dyad_Cmp.f k false ((rd_T36 y452 0).f1) (wrap64 (((rd_T36 y452 0).f2) + 1)) ((rd_T36 y452 1).f0) ((rd_T36 y452 1).f1) ((rd_T36 y452 1).f2)).bind fun bt456 => ((dyad_Cmp.f k ((rd_T36 y452 0).f0) ((rd_T36 y452 0).f1) ((rd_T36 y452 0).f2) false ((rd_T36 y452 1).f1) (wrap64 (((rd_T36 y452 1).f2) + 1))).bind fun bt461 => (if bt456.2 = 0 then (slipsticklaw05_IeeeNear.j2 k x1 x2 x3 bt456.1 bt461.1 (bt461.2 != 0) x442000 x442001 x442002) else (slipsticklaw05_IeeeNear.j2 k x1 x2 x3 bt456.1 bt461.1 true x442000 x442001 x442002))))) else (none))) else (none))
def slipsticklaw05_IeeeNear.j2 : Nat → Int → Int → Int → Int → Int → Bool → Int → Int → Int → Option (Bool)
  | 0, _, _, _, _, _, _, _, _, _ => none
  | k + 1, x1, x2, x3, x13, x15, x101, x442000, x442001, x442002 => if x101 = true then (none) else (if x13 < 0 then (some true) else (if x15 > 0 then (some true) else ((ieee_Sub.f x442000 x442001 x442002 x1 x2 x3).bind fun bt463 => (if bt463.2.2 = 0 then (some (bt463.2.1 == 0)) else (none)))))
end
def slipsticklaw05_IeeeNear.f (k : Nat) (a0 : Int) (a1 : Int) (a2 : Int) (a3 : Int) : Option (Bool) := (slipsticklaw05_awake.f).bind fun t436 => (if t436 = true then ((format_Of.f a0).bind fun bt437 => (if bt437.2.2.2 = 0 then (if a1 < 0 then (slipsticklaw05_IeeeNear.j0 k a1 a2 a3 true bt437.1 bt437.2.1 bt437.2.2.1) else (slipsticklaw05_IeeeNear.j0 k a1 a2 a3 (decide (a1 ≥ 5)) bt437.1 bt437.2.1 bt437.2.2.1)) else (slipsticklaw05_IeeeNear.j0 k a1 a2 a3 true bt437.1 bt437.2.1 bt437.2.2.1))) else (none))
theorem slipsticklaw05_IeeeNear.mono_l : ∀ k, (∀ y0 y1 y2 y3 y4 y5 y6, LeO (slipsticklaw05_IeeeNear.j0 k y0 y1 y2 y3 y4 y5 y6) (slipsticklaw05_IeeeNear.j0 (k + 1) y0 y1 y2 y3 y4 y5 y6)) ∧ (∀ y0 y1 y2 y3 y4 y5 y6 y7, LeO (slipsticklaw05_IeeeNear.j1 k y0 y1 y2 y3 y4 y5 y6 y7) (slipsticklaw05_IeeeNear.j1 (k + 1) y0 y1 y2 y3 y4 y5 y6 y7)) ∧ (∀ y0 y1 y2 y3 y4 y5 y6 y7 y8, LeO (slipsticklaw05_IeeeNear.j2 k y0 y1 y2 y3 y4 y5 y6 y7 y8) (slipsticklaw05_IeeeNear.j2 (k + 1) y0 y1 y2 y3 y4 y5 y6 y7 y8))
  | 0 => ⟨fun _ _ _ _ _ _ _ r h => by simp [slipsticklaw05_IeeeNear.j0] at h, fun _ _ _ _ _ _ _ _ r h => by simp [slipsticklaw05_IeeeNear.j1] at h, fun _ _ _ _ _ _ _ _ _ r h => by simp [slipsticklaw05_IeeeNear.j2] at h⟩
  | k + 1 => by
    obtain ⟨ih0, ih1, ih2⟩ := slipsticklaw05_IeeeNear.mono_l k
    refine ⟨?_, ?_, ?_⟩
    · intro y0 y1 y2 y3 y4 y5 y6
      unfold slipsticklaw05_IeeeNear.j0
      repeat' first
      | (with_reducible exact ih0 _ _ _ _ _ _ _)
      | (with_reducible exact ih1 _ _ _ _ _ _ _ _)
      | (with_reducible exact ih2 _ _ _ _ _ _ _ _ _)
      | (with_reducible exact dyad_Cmp.mono _ _ _ _ _ _ _)
      | (with_reducible exact slipsticklaw05_finite.mono _ _ _ _ _)
      | (with_reducible exact LeO.refl _)
      | (with_reducible exact LeO.none _)
      | (with_reducible refine LeO.ite ?_ ?_)
      | (with_reducible refine LeO.bind ?_ (fun _ => ?_))
      | exact ih0 _ _ _ _ _ _ _
      | exact ih1 _ _ _ _ _ _ _ _
      | exact ih2 _ _ _ _ _ _ _ _ _
      | exact dyad_Cmp.mono _ _ _ _ _ _ _
      | exact slipsticklaw05_finite.mono _ _ _ _ _
      | exact LeO.none _
      | refine LeO.ite ?_ ?_
      | refine LeO.bind ?_ (fun _ => ?_)
    · intro y0 y1 y2 y3 y4 y5 y6 y7
      unfold slipsticklaw05_IeeeNear.j1
      repeat' first
      | (with_reducible exact ih0 _ _ _ _ _ _ _)
      | (with_reducible exact ih1 _ _ _ _ _ _ _ _)
      | (with_reducible exact ih2 _ _ _ _ _ _ _ _ _)
      | (with_reducible exact dyad_Cmp.mono _ _ _ _ _ _ _)
      | (with_reducible exact slipsticklaw05_finite.mono _ _ _ _ _)
      | (with_reducible exact LeO.refl _)
      | (with_reducible exact LeO.none _)
      | (with_reducible refine LeO.ite ?_ ?_)
      | (with_reducible refine LeO.bind ?_ (fun _ => ?_))
      | exact ih0 _ _ _ _ _ _ _
      | exact ih1 _ _ _ _ _ _ _ _
      | exact ih2 _ _ _ _ _ _ _ _ _
      | exact dyad_Cmp.mono _ _ _ _ _ _ _
      | exact slipsticklaw05_finite.mono _ _ _ _ _
      | exact LeO.none _
      | refine LeO.ite ?_ ?_
      | refine LeO.bind ?_ (fun _ => ?_)
    · intro y0 y1 y2 y3 y4 y5 y6 y7 y8
      unfold slipsticklaw05_IeeeNear.j2
      repeat' first
      | (with_reducible exact ih0 _ _ _ _ _ _ _)
      | (with_reducible exact ih1 _ _ _ _ _ _ _ _)
      | (with_reducible exact ih2 _ _ _ _ _ _ _ _ _)
      | (with_reducible exact dyad_Cmp.mono _ _ _ _ _ _ _)
      | (with_reducible exact slipsticklaw05_finite.mono _ _ _ _ _)
      | (with_reducible exact LeO.refl _)
      | (with_reducible exact LeO.none _)
      | (with_reducible refine LeO.ite ?_ ?_)
      | (with_reducible refine LeO.bind ?_ (fun _ => ?_))
      | exact ih0 _ _ _ _ _ _ _
      | exact ih1 _ _ _ _ _ _ _ _
      | exact ih2 _ _ _ _ _ _ _ _ _
      | exact dyad_Cmp.mono _ _ _ _ _ _ _
      | exact slipsticklaw05_finite.mono _ _ _ _ _
      | exact LeO.none _
      | refine LeO.ite ?_ ?_
      | refine LeO.bind ?_ (fun _ => ?_)
theorem slipsticklaw05_IeeeNear.mono : ∀ a0 a1 a2 a3 k, LeO (slipsticklaw05_IeeeNear.f k a0 a1 a2 a3) (slipsticklaw05_IeeeNear.f (k + 1) a0 a1 a2 a3) := by
  intro a0 a1 a2 a3 k
  obtain ⟨ih0, ih1, ih2⟩ := slipsticklaw05_IeeeNear.mono_l k
  unfold slipsticklaw05_IeeeNear.f
  repeat' first
      | (with_reducible exact ih0 _ _ _ _ _ _ _)
      | (with_reducible exact ih1 _ _ _ _ _ _ _ _)
      | (with_reducible exact ih2 _ _ _ _ _ _ _ _ _)
      | (with_reducible exact dyad_Cmp.mono _ _ _ _ _ _ _)
      | (with_reducible exact slipsticklaw05_finite.mono _ _ _ _ _)
      | (with_reducible exact LeO.refl _)
      | (with_reducible exact LeO.none _)
      | (with_reducible refine LeO.ite ?_ ?_)
      | (with_reducible refine LeO.bind ?_ (fun _ => ?_))
      | exact ih0 _ _ _ _ _ _ _
      | exact ih1 _ _ _ _ _ _ _ _
      | exact ih2 _ _ _ _ _ _ _ _ _
      | exact dyad_Cmp.mono _ _ _ _ _ _ _
      | exact slipsticklaw05_finite.mono _ _ _ _ _
      | exact LeO.none _
      | refine LeO.ite ?_ ?_
      | refine LeO.bind ?_ (fun _ => ?_)
def slipsticklaw05_IeeeNear.T7 : Bool × List (List Nat × List Nat) := (true, [([], []), ([0], [0]), ([1], [1]), ([2], [2]), ([2], [2]), ([3, 4, 2, 2], [2, 3, 4]), ([2], [2]), ([2], [2]), ([6, 7, 5, 2], [2, 6, 7]), ([5, 8, 2], [2, 5, 8]), ([2, 9], [2, 9])])
def slipsticklaw05_IeeeNear.B7 : List Nat := [0, 1, 3, 7, 7, 31, 7, 7, 255, 511, 1023]
theorem slipsticklaw05_IeeeNear.tab7 : rtab .any (opsOf Try.f3 7) = slipsticklaw05_IeeeNear.T7 := by kernel_rfl
theorem slipsticklaw05_IeeeNear.bits7 : waitsOk slipsticklaw05_IeeeNear.T7.2 slipsticklaw05_IeeeNear.B7 = true := by kernel_rfl
def slipsticklaw05_IeeeNear.T10 : Bool × List (List Nat × List Nat) := (true, [([], []), ([0], [0]), ([1], [1]), ([2], [2]), ([], []), ([4], [4]), ([5], [5]), ([6], [6]), ([7], [7]), ([3, 8], [3, 8]), ([], []), ([10], [10]), ([11], [11]), ([9, 12], [9, 12]), ([13], [13]), ([14], [14]), ([14], [14]), ([15, 13, 0, 1, 2, 3, 4, 5, 6, 7, 8, 9, 10, 11, 12, 13, 14, 15], [15]), ([16, 17, 0, 1, 2, 3, 4, 5, 6, 7, 8, 9, 10, 11, 12, 13, 14, 15, 16, 17], [16])])
def slipsticklaw05_IeeeNear.B10 : List Nat := [0, 1, 3, 7, 0, 16, 48, 112, 240, 511, 0, 1024, 3072, 8191, 16383, 32767, 32767, 65535, 262143]
theorem slipsticklaw05_IeeeNear.tab10 : rtab .any (opsOf Try.f3 10) = slipsticklaw05_IeeeNear.T10 := by kernel_rfl
theorem slipsticklaw05_IeeeNear.bits10 : waitsOk slipsticklaw05_IeeeNear.T10.2 slipsticklaw05_IeeeNear.B10 = true := by kernel_rfl
def slipsticklaw05_IeeeNear.T11 : Bool × List (List Nat × List Nat) := (true, [([], []), ([0], [0]), ([1], [1]), ([], []), ([3], [3]), ([4], [4]), ([5], [5]), ([], []), ([7], [7]), ([8], [8]), ([9], [9]), ([10], [10]), ([6, 11], [6, 11]), ([2, 12], [2, 12]), ([13], [13]), ([14], [14]), ([14], [14]), ([15, 13, 0, 1, 2, 3, 4, 5, 6, 7, 8, 9, 10, 11, 12, 13, 14, 15], [15]), ([16, 17, 0, 1, 2, 3, 4, 5, 6, 7, 8, 9, 10, 11, 12, 13, 14, 15, 16, 17], [16])])
def slipsticklaw05_IeeeNear.B11 : List Nat := [0, 1, 3, 0, 8, 24, 56, 0, 128, 384, 896, 1920, 4088, 8191, 16383, 32767, 32767, 65535, 262143]
theorem slipsticklaw05_IeeeNear.tab11 : rtab .any (opsOf Try.f3 11) = slipsticklaw05_IeeeNear.T11 := by kernel_rfl
theorem slipsticklaw05_IeeeNear.bits11 : waitsOk slipsticklaw05_IeeeNear.T11.2 slipsticklaw05_IeeeNear.B11 = true := by kernel_rfl
set_option maxHeartbeats 8000000 in
set_option maxRecDepth 100000 in
theorem slipsticklaw05_IeeeNear.calls (k : Nat) (a0 : Int) (a1 : Int) (a2 : Int) (a3 : Int) (r : Bool) (w : World) (h : slipsticklaw05_IeeeNear.f k a0 a1 a2 a3 = some r) :
    Calls Try.prog 3 #[.int .i64 a0, .int .i64 a1, .int .u64 a2, .int .u64 a3] w fun e w' => e = .returned (.bool r) ∧ Below w.heap.size w w' := by
  have hu25 := Try.underlying25
  have hu36 := Try.underlying36
  have HB := Aside0.mk (Below.refl w.heap.size w)
  have H : ((slipsticklaw05_awake.f).bind fun t436 => (if t436 = true then ((format_Of.f a0).bind fun bt437 => (if bt437.2.2.2 = 0 then (if a1 < 0 then (slipsticklaw05_IeeeNear.j0 k a1 a2 a3 true bt437.1 bt437.2.1 bt437.2.2.1) else (slipsticklaw05_IeeeNear.j0 k a1 a2 a3 (decide (a1 ≥ 5)) bt437.1 bt437.2.1 bt437.2.2.1)) else (slipsticklaw05_IeeeNear.j0 k a1 a2 a3 true bt437.1 bt437.2.1 bt437.2.2.1))) else (none))) = some r := h
  clear h
  replace H := Option.bind_eq_some_iff.mp H
  obtain ⟨t436, A50, H⟩ := H
  replace H : (if t436 = true then ((format_Of.f a0).bind fun bt437 => (if bt437.2.2.2 = 0 then (if a1 < 0 then (slipsticklaw05_IeeeNear.j0 k a1 a2 a3 true bt437.1 bt437.2.1 bt437.2.2.1) else (slipsticklaw05_IeeeNear.j0 k a1 a2 a3 (decide (a1 ≥ 5)) bt437.1 bt437.2.1 bt437.2.2.1)) else (slipsticklaw05_IeeeNear.j0 k a1 a2 a3 true bt437.1 bt437.2.1 bt437.2.2.1))) else (none)) = some r := H
  have A5 := Aside0.mk A50
  clear A50
  by_cases c6 : t436 = true
  · subst c6
    have H1 : ((format_Of.f a0).bind fun bt437 => (if bt437.2.2.2 = 0 then (if a1 < 0 then (slipsticklaw05_IeeeNear.j0 k a1 a2 a3 true bt437.1 bt437.2.1 bt437.2.2.1) else (slipsticklaw05_IeeeNear.j0 k a1 a2 a3 (decide (a1 ≥ 5)) bt437.1 bt437.2.1 bt437.2.2.1)) else (slipsticklaw05_IeeeNear.j0 k a1 a2 a3 true bt437.1 bt437.2.1 bt437.2.2.1))) = some r := by rw [if_pos rfl] at H; exact H
    clear H
    have H := H1
    clear H1
    replace H := Option.bind_eq_some_iff.mp H
    obtain ⟨⟨t437, t438, t439, t440⟩, A70, H⟩ := H
    replace H : (if t440 = 0 then (if a1 < 0 then (slipsticklaw05_IeeeNear.j0 k a1 a2 a3 true t437 t438 t439) else (slipsticklaw05_IeeeNear.j0 k a1 a2 a3 (decide (a1 ≥ 5)) t437 t438 t439)) else (slipsticklaw05_IeeeNear.j0 k a1 a2 a3 true t437 t438 t439)) = some r := H
    have A7 := Aside0.mk A70
    clear A70
    have HC8 := Aside0.mk H
    clear H
    go_enter Try.func3, Try.ntmps3
    go_upto_region 4 with (first | ((with_reducible refine gate_callee (f := 11) rfl ?_); refine goesL_ (some 20) rfl rfl Try.func11 (by kernel_rfl) rfl #[] rfl (by (try simp only [List.map_toArray, List.map_cons, List.map_nil]); first | done | rfl | (simp only [List.length_drop, List.length_take]; rfl)) ?_; (with_reducible refine (slipsticklaw05_awake.calls  true _ A5.out).mono ?_); rintro e w9 ⟨rfl, hb⟩; refine ⟨_, rfl, ?_⟩; have n0_ := Aside0.mk (below_step (by repeat (first | (with_reducible first | exact HB.out | apply below_alloc | apply pw_below_drewN | apply below_drew1) | exact HB.out)) hb); clear HB; have HB := n0_; clear n0_; (try clear hb); (try clear hb2); (try clear hk); (try clear hi)) | ((with_reducible refine gate_callee (f := 12) rfl ?_); refine goesL_ (some 24) rfl rfl Try.func12 (by kernel_rfl) rfl #[.int .i64 a0] rfl (by (try simp only [List.map_toArray, List.map_cons, List.map_nil]); first | done | rfl | (simp only [List.length_drop, List.length_take]; rfl)) ?_; (with_reducible refine (format_Of.calls a0 t437 t438 t439 t440 _ A7.out).mono ?_); rintro e w10 ⟨rfl, hb⟩; refine ⟨_, rfl, ?_⟩; have n0_ := Aside0.mk (below_step (by repeat (first | (with_reducible first | exact HB.out | apply below_alloc | apply pw_below_drewN | apply below_drew1) | exact HB.out)) hb); clear HB; have HB := n0_; clear n0_; (try clear hb); (try clear hb2); (try clear hk); (try clear hi)) | ((with_reducible refine gate_dst (N := 9) rfl ?_); refine box_event ?hg (N := 9) ?hd (cs := #[.int .i64 0, .int .i64 0, .int .i64 0]) (t := 25) ?hr ?_; (case hd => rfl); (case hg => rfl); (case hr => first | (go_simp; done) | (go_simp; rfl)); intro gb441 hg w11 hbox hb; have n0_ := Aside0.mk (below_step (by repeat (first | (with_reducible first | exact HB.out | apply below_alloc | apply pw_below_drewN | apply below_drew1) | exact HB.out)) hb); have n1_ := Aside0.mk (hbox); have n2_ := Aside0.mk ((by rw [hg]; exact (below_size (by repeat (first | (with_reducible first | exact HB.out | apply below_alloc | apply pw_below_drewN | apply below_drew1) | exact HB.out))) : w.heap.size ≤ gb441)); have n3_ := Aside0.mk ((by rw [hg]; exact (below_size (by repeat (first | (with_reducible first | exact HB.out | apply below_alloc | apply pw_below_drewN | apply below_drew1) | exact HB.out))) : w.heap.size ≤ gb441)); clear HB; have HB := n0_; have BK441 := n1_; have GW441 := n2_; have GE441 := n3_; clear n0_ n1_ n2_ n3_; clear hb hbox hg; have hcz12_0 : w11.cell? ⟨gb441, 0, none⟩ = some (.int .i64 0) := (blk_cell BK441.out 0).trans rfl; have hcz12_1 : w11.cell? ⟨gb441, 1, none⟩ = some (.int .i64 0) := (blk_cell BK441.out 1).trans rfl; have hcz12_2 : w11.cell? ⟨gb441, 2, none⟩ = some (.int .i64 0) := (blk_cell BK441.out 2).trans rfl; have hfz12_0 := blk_frozen BK441.out 0; have hfz12_1 := blk_frozen BK441.out 1; have hfz12_2 := blk_frozen BK441.out 2))
    (try simp only [Act.put, List.setIfInBounds_toArray, List.set_cons_zero, List.set_cons_succ])
    go_cut [36] (fun v36 wc => ∃ (kq : Nat) (x36_7 : Bool), v36 = .bool x36_7 ∧ Aside0 (slipsticklaw05_IeeeNear.j0 kq a1 a2 a3 x36_7 t437 t438 t439 = some r) ∧ Aside0 (kq ≤ k) ∧ Aside0 (wc.heap[gb441]? = some (.cells #[.int .i64 t437, .int .i64 t438, .int .i64 t439] 25 (0, 0))) ∧ Aside0 (Below w.heap.size w wc))
    case first =>
      have H := HC8.out
      clear HC8
      by_cases c13 : t440 = 0
      · rw [if_pos c13] at H
        have c13b0 : (t440 == 0) = true := beq_iff_eq.mpr c13
        have c13b1 : (t440 != 0) = false := bne_eq_false_iff_eq.mpr c13
        clear c13
        (first | rw [c13b0] | (simp only [i64_w, i32_w]; rw [c13b0]) | skip)
        by_cases c14 : a1 < 0
        · rw [if_pos c14] at H
          have c14b0 : decide (a1 < 0) = true := decide_eq_true c14
          clear c14
          have H' := Aside0.mk H
          clear H
          go_wp2
          go_meet
          case rel => exact ⟨_, (true), (by first | rfl | (simp; done) | (simp [*]; done) | (simp; omega)), H', ⟨by first | omega | exact Nat.le_refl _⟩, ⟨by (with_reducible repeat (first | refine blk_drewN ?_ _ | refine blk_drew ?_ | refine blk_alloc ?_ _)); refine blk_put (cs := #[.int .i64 t437, .int .i64 t438, .int .i64 0]) ?_ 2 _ rfl; (with_reducible repeat (first | refine blk_drewN ?_ _ | refine blk_drew ?_ | refine blk_alloc ?_ _)); refine blk_put (cs := #[.int .i64 t437, .int .i64 0, .int .i64 0]) ?_ 1 _ rfl; (with_reducible repeat (first | refine blk_drewN ?_ _ | refine blk_drew ?_ | refine blk_alloc ?_ _)); refine blk_put (cs := #[.int .i64 0, .int .i64 0, .int .i64 0]) ?_ 0 _ rfl; (with_reducible repeat (first | refine blk_drewN ?_ _ | refine blk_drew ?_ | refine blk_alloc ?_ _)); exact BK441.out⟩, ⟨by repeat (first | (with_reducible first | exact HB.out | apply below_alloc | apply pw_below_drewN | apply below_drew1 | refine below_set ?_ GE441.out) | exact HB.out)⟩⟩
        · rw [if_neg c14] at H
          have c14b0 : decide (a1 < 0) = false := decide_eq_false c14
          clear c14
          have H' := Aside0.mk H
          clear H
          go_wp2
          go_meet
          case rel => exact ⟨_, (decide (a1 ≥ 5)), (by first | rfl | (simp; done) | (simp [*]; done) | (simp; omega)), H', ⟨by first | omega | exact Nat.le_refl _⟩, ⟨by (with_reducible repeat (first | refine blk_drewN ?_ _ | refine blk_drew ?_ | refine blk_alloc ?_ _)); refine blk_put (cs := #[.int .i64 t437, .int .i64 t438, .int .i64 0]) ?_ 2 _ rfl; (with_reducible repeat (first | refine blk_drewN ?_ _ | refine blk_drew ?_ | refine blk_alloc ?_ _)); refine blk_put (cs := #[.int .i64 t437, .int .i64 0, .int .i64 0]) ?_ 1 _ rfl; (with_reducible repeat (first | refine blk_drewN ?_ _ | refine blk_drew ?_ | refine blk_alloc ?_ _)); refine blk_put (cs := #[.int .i64 0, .int .i64 0, .int .i64 0]) ?_ 0 _ rfl; (with_reducible repeat (first | refine blk_drewN ?_ _ | refine blk_drew ?_ | refine blk_alloc ?_ _)); exact BK441.out⟩, ⟨by repeat (first | (with_reducible first | exact HB.out | apply below_alloc | apply pw_below_drewN | apply below_drew1 | refine below_set ?_ GE441.out) | exact HB.out)⟩⟩
      · rw [if_neg c13] at H
        have c13b0 : (t440 == 0) = false := beq_eq_false_iff_ne.mpr c13
        have c13b1 : (t440 != 0) = true := bne_iff_ne.mpr c13
        (first | rw [c13b0] | (simp only [i64_w, i32_w]; rw [c13b0]) | skip)
        have H' := Aside0.mk H
        clear H
        go_wp2
        go_meet
        case rel => exact ⟨_, (true), (by first | rfl | (simp; done) | (simp [*]; done) | (simp; omega)), H', ⟨by first | omega | exact Nat.le_refl _⟩, ⟨by (with_reducible repeat (first | refine blk_drewN ?_ _ | refine blk_drew ?_ | refine blk_alloc ?_ _)); refine blk_put (cs := #[.int .i64 t437, .int .i64 t438, .int .i64 0]) ?_ 2 _ rfl; (with_reducible repeat (first | refine blk_drewN ?_ _ | refine blk_drew ?_ | refine blk_alloc ?_ _)); refine blk_put (cs := #[.int .i64 t437, .int .i64 0, .int .i64 0]) ?_ 1 _ rfl; (with_reducible repeat (first | refine blk_drewN ?_ _ | refine blk_drew ?_ | refine blk_alloc ?_ _)); refine blk_put (cs := #[.int .i64 0, .int .i64 0, .int .i64 0]) ?_ 0 _ rfl; (with_reducible repeat (first | refine blk_drewN ?_ _ | refine blk_drew ?_ | refine blk_alloc ?_ _)); exact BK441.out⟩, ⟨by repeat (first | (with_reducible first | exact HB.out | apply below_alloc | apply pw_below_drewN | apply below_drew1 | refine below_set ?_ GE441.out) | exact HB.out)⟩⟩
    case rest =>
      clear HC8
      try clear c1
      try clear p2
      try clear c3
      try clear c6
      try clear c11
      try clear c12
      try clear c13
      try clear c13b0
      try clear c13b1
      try clear c14
      try clear c14b0
      try clear hcz12_0
      try clear hcz12_1
      try clear hcz12_2
      try clear hfz12_0
      try clear hfz12_1
      try clear hfz12_2
      obtain ⟨kq, x36_7, rfl, HA, HJ7, BK441, HB⟩ := hcut
      cases kq with
      | zero => exact absurd HA.out (by simp [slipsticklaw05_IeeeNear.j0])
      | succ kj7 =>
        have H := HA.out
        clear HA
        simp only [slipsticklaw05_IeeeNear.j0] at H
        by_cases c15 : x36_7 = true
        · subst c15
          have H1 : (some true) = some r := by rw [if_pos rfl] at H; exact H
          clear H
          have H := H1
          clear H1
          obtain rfl := Option.some.inj H
          go_wp2
          go_ret
          exact ⟨by first | rfl | (simp [errW_none, errW_some] <;> rfl) | (simp [*, errW_none, errW_some] <;> rfl), by repeat (first | (with_reducible first | exact HB.out | apply below_alloc | apply pw_below_drewN | apply below_drew1 | refine below_set ?_ GE441.out) | exact HB.out)⟩
        · replace c15 := Bool.eq_false_iff.mpr c15
          subst c15
          have H1 : ((slipsticklaw05_finite.f kj7 t437 t438 t439 (([a2, a3] : List Int))).bind fun bt445 => (if bt445.2 = true then ((format_Form_Neg.f t437 t438 t439 a2).bind fun t449 => ((format_Form_Neg.f t437 t438 t439 a3).bind fun t450 => (slipsticklaw05_IeeeNear.j1 kj7 a1 a2 a3 bt445.1 (t449 != t450) t437 t438 t439))) else (slipsticklaw05_IeeeNear.j1 kj7 a1 a2 a3 bt445.1 true t437 t438 t439))) = some r := by rw [if_neg (show ¬ (false = true) by decide)] at H; exact H
          clear H
          have H := H1
          clear H1
          obtain ⟨y442, hy442⟩ : ∃ y_ : List Int, y_ = (([a2, a3] : List Int)) := ⟨_, rfl⟩
          replace H : ((slipsticklaw05_finite.f kj7 t437 t438 t439 y442).bind fun bt445 => (if bt445.2 = true then ((format_Form_Neg.f t437 t438 t439 a2).bind fun t449 => ((format_Form_Neg.f t437 t438 t439 a3).bind fun t450 => (slipsticklaw05_IeeeNear.j1 kj7 a1 a2 a3 bt445.1 (t449 != t450) t437 t438 t439))) else (slipsticklaw05_IeeeNear.j1 kj7 a1 a2 a3 bt445.1 true t437 t438 t439))) = some r := by first | (rw [hy442]; with_reducible exact H) | (have H2_ := (Option.bind_some _ _).symm.trans H; rw [hy442]; with_reducible exact H2_) | (have H2_ := (Option.bind_some _ _).symm.trans H; with_reducible exact H2_) | with_reducible exact H | (rw [hy442]; exact H) | exact H
          have Ny442 := Aside0.mk hy442
          clear hy442
          replace H := Option.bind_eq_some_iff.mp H
          obtain ⟨⟨t445, t448⟩, A160, H⟩ := H
          replace H : (if t448 = true then ((format_Form_Neg.f t437 t438 t439 a2).bind fun t449 => ((format_Form_Neg.f t437 t438 t439 a3).bind fun t450 => (slipsticklaw05_IeeeNear.j1 kj7 a1 a2 a3 t445 (t449 != t450) t437 t438 t439))) else (slipsticklaw05_IeeeNear.j1 kj7 a1 a2 a3 t445 true t437 t438 t439)) = some r := H
          have A16 := Aside0.mk A160
          clear A160
          have HC17 := Aside0.mk H
          clear H
          have hcz18_0 : wc.cell? ⟨gb441, 0, none⟩ = some (.int .i64 t437) := (blk_cell BK441.out 0).trans rfl
          have hcz18_1 : wc.cell? ⟨gb441, 1, none⟩ = some (.int .i64 t438) := (blk_cell BK441.out 1).trans rfl
          have hcz18_2 : wc.cell? ⟨gb441, 2, none⟩ = some (.int .i64 t439) := (blk_cell BK441.out 2).trans rfl
          have hfz18_0 := blk_frozen BK441.out 0
          have hfz18_1 := blk_frozen BK441.out 1
          have hfz18_2 := blk_frozen BK441.out 2
          go_upto_region 7 with (first | ((with_reducible refine gate_dst (N := 41) rfl ?_); refine Kd.R_lit (Kd.int .u64) _ 22 ?hg (N := 41) ?hd (xs := ([a2, a3] : List Int)) (inner := [.int .u64 a2, .int .u64 a3]) (ok := fun _ => True) (okp := fun _ => True) ?hr ?hp (fun _ hk => hk) trivial (Below.refl _ _) (Nat.le_refl _) (by simp) ?_; (case hd => rfl); (case hg => rfl); (case hr => first | (go_simp; done) | (go_simp; rfl)); (case hp => exact (Reps.one (show Kd.M (Kd.int .u64) _ _ _ a2 [.int .u64 a2] from rfl) (Reps.one (show Kd.M (Kd.int .u64) _ _ _ a3 [.int .u64 a3] from rfl) (Reps.none _ _)))); intro v443 w19 ho20 hb hg_ hnew_; clear hg_ hnew_; (first | rw [← Ny442.out] at ho20 | (simp only [Int.reduceToNat] at ho20; rw [← Ny442.out] at ho20)); have n0_ := Aside0.mk (Kd.R_lower ho20 (below_size (by repeat (first | (with_reducible first | exact HB.out | apply below_alloc | apply pw_below_drewN | apply below_drew1 | refine below_set ?_ GE441.out) | exact HB.out)))); have n1_ := Aside0.mk (blk_below (g := gb441) (o := .cells #[.int .i64 t437, .int .i64 t438, .int .i64 t439] 25 (0, 0)) (by (with_reducible repeat (first | refine blk_drewN ?_ _ | refine blk_drew ?_ | refine blk_alloc ?_ _)); exact BK441.out) hb); have n2_ := Aside0.mk (below_step (by repeat (first | (with_reducible first | exact HB.out | apply below_alloc | apply pw_below_drewN | apply below_drew1 | refine below_set ?_ GE441.out) | exact HB.out)) hb); clear BK441; clear HB; have HO444 := n0_; have BK441 := n1_; have HB := n2_; clear n0_ n1_ n2_; clear hb ho20; obtain ⟨Ao21, co21, eo21⟩ := Kd.R_slice HO444.out; subst eo21) | ((with_reducible refine gate_callee (f := 13) rfl ?_); refine goesL_ (some 42) rfl rfl Try.func13 (by kernel_rfl) rfl #[.agg #[.int .i64 t437, .int .i64 t438, .int .i64 t439], .slice Ao21 y442.length co21] rfl (by (try simp only [List.map_toArray, List.map_cons, List.map_nil]); first | done | rfl | (simp only [List.length_drop, List.length_take]; rfl)) ?_; (with_reducible refine (slipsticklaw05_finite.calls kj7 t437 t438 t439 _ _ y442 t445 t448 _ ?side1 ?side2 A16.out).mono ?_); (case side1 => repeat (first | exact (Kd.R_reads' HO444.out).2.2 | (with_reducible refine Kd.C_alloc ?_ _) | (with_reducible refine Kd.C_drewN ?_ _) | (with_reducible refine Kd.C_drew ?_))); (case side2 => exact (Kd.R_reads' HO444.out).2.1); rintro e w22 ⟨v446, rfl, ho0, hb⟩; refine ⟨_, rfl, ?_⟩; have n0_ := Aside0.mk (Kd.R_below (by (with_reducible repeat (first | apply Kd.R_alloc | apply Kd.R_drewN | apply Kd.R_drew)); exact HO444.out) hb); have n1_ := Aside0.mk (Kd.N_lower (Kd.N_mono (ok' := fun k_ => some k_ ≠ (.slice Ao21 y442.length co21 : Value).ownBlock ∧ k_ ≠ gb441) ho0 (fun k_ hk_ => ⟨(Kd.fresh' (Kd.R_lt (by (with_reducible repeat (first | apply Kd.R_alloc | apply Kd.R_drewN | apply Kd.R_drew)); exact HO444.out)) k_ hk_), (Kd.freshB (g := gb441) (o := .cells #[.int .i64 t437, .int .i64 t438, .int .i64 t439] 25 (0, 0)) (by (with_reducible repeat (first | refine blk_drewN ?_ _ | refine blk_drew ?_ | refine blk_alloc ?_ _)); exact BK441.out) k_ hk_)⟩)) (below_size (by repeat (first | (with_reducible first | exact HB.out | apply below_alloc | apply pw_below_drewN | apply below_drew1 | refine below_set ?_ GE441.out) | exact HB.out)))); have n2_ := Aside0.mk (blk_below (g := gb441) (o := .cells #[.int .i64 t437, .int .i64 t438, .int .i64 t439] 25 (0, 0)) (by (with_reducible repeat (first | refine blk_drewN ?_ _ | refine blk_drew ?_ | refine blk_alloc ?_ _)); exact BK441.out) hb); have n3_ := Aside0.mk (below_step (by repeat (first | (with_reducible first | exact HB.out | apply below_alloc | apply pw_below_drewN | apply below_drew1 | refine below_set ?_ GE441.out) | exact HB.out)) hb); clear HO444; clear BK441; clear HB; have HO444 := n0_; have HO447 := n1_; have BK441 := n2_; have HB := n3_; clear n0_ n1_ n2_ n3_; (try clear hb); (try clear hb2); (try clear hk); (try clear hi); (try clear ho0)))
          (try simp only [Act.put, List.setIfInBounds_toArray, List.set_cons_zero, List.set_cons_succ])
          go_cut [55] (fun v55 wc => ∃ (kq : Nat) (x55_16 : Bool), v55 = .bool x55_16 ∧ Aside0 (slipsticklaw05_IeeeNear.j1 kq a1 a2 a3 t445 x55_16 t437 t438 t439 = some r) ∧ Aside0 (kq ≤ kj7) ∧ Aside0 (Kd.N k36 36 wc w.heap.size (fun k_ => k_ ≠ gb441) v446 t445) ∧ Aside0 (wc.heap[gb441]? = some (.cells #[.int .i64 t437, .int .i64 t438, .int .i64 t439] 25 (0, 0))) ∧ Aside0 (Below w.heap.size w wc))
          case first =>
            have H := HC17.out
            clear HC17
            by_cases c23 : t448 = true
            · subst c23
              have H1 : ((format_Form_Neg.f t437 t438 t439 a2).bind fun t449 => ((format_Form_Neg.f t437 t438 t439 a3).bind fun t450 => (slipsticklaw05_IeeeNear.j1 kj7 a1 a2 a3 t445 (t449 != t450) t437 t438 t439))) = some r := by rw [if_pos rfl] at H; exact H
              clear H
              have H := H1
              clear H1
              replace H := Option.bind_eq_some_iff.mp H
              obtain ⟨t449, A240, H⟩ := H
              replace H : ((format_Form_Neg.f t437 t438 t439 a3).bind fun t450 => (slipsticklaw05_IeeeNear.j1 kj7 a1 a2 a3 t445 (t449 != t450) t437 t438 t439)) = some r := H
              have A24 := Aside0.mk A240
              clear A240
              replace H := Option.bind_eq_some_iff.mp H
              obtain ⟨t450, A250, H⟩ := H
              replace H : (slipsticklaw05_IeeeNear.j1 kj7 a1 a2 a3 t445 (t449 != t450) t437 t438 t439) = some r := H
              have A25 := Aside0.mk A250
              clear A250
              have H' := Aside0.mk H
              clear H
              try go_wp2
              have n0_ := Aside0.mk (Kd.R_drew HO444.out)
              have n1_ := Aside0.mk (Kd.N_drew HO447.out)
              have n2_ := Aside0.mk (blk_drew BK441.out)
              have n3_ := Aside0.mk (below_drew1 HB.out)
              clear HO444
              clear HO447
              clear BK441
              clear HB
              have HO444 := n0_
              have HO447 := n1_
              have BK441 := n2_
              have HB := n3_
              clear n0_ n1_ n2_ n3_
              refine start_ (n := 11) (S := fun w' => w'.cell? ⟨gb441, 0, none⟩ = some (.int .i64 t437) ∧ w'.cell? ⟨gb441, 1, none⟩ = some (.int .i64 t438) ∧ w'.cell? ⟨gb441, 2, none⟩ = some (.int .i64 t439)) (ds := []) #[false, false, false, false, false, false, false, false, false, false, false] (by kernel_rfl) rfl rfl ⟨(blk_cell BK441.out 0).trans rfl, (blk_cell BK441.out 1).trans rfl, (blk_cell BK441.out 2).trans rfl⟩ (fun hHeld => ?_); refine with_tabW slipsticklaw05_IeeeNear.tab7 slipsticklaw05_IeeeNear.bits7 (fun HT_ HW_ => ?_)
              generalize w22.drew = w26 at HO444 HO447 BK441 HB hHeld ⊢
              refine pure_ (i := 0) (N := some 45) (v := ?_) (a' := ?_) #[true, false, false, false, false, false, false, false, false, false, false] rfl rfl (any_of HT_.out (by kernel_rfl)) (fun _ _ _ h => h) (Or.inl ⟨by rfl, ?_⟩) ?_ ?_
              rotate_left
              · intro w'
                go_simp
                with_reducible rfl
              rotate_left
              · simp only [Act.put, List.setIfInBounds_toArray, List.set_cons_zero, List.set_cons_succ, i64_w, i32_w]
                rfl
              refine pure_ (i := 1) (N := some 46) (v := ?_) (a' := ?_) #[true, true, false, false, false, false, false, false, false, false, false] rfl rfl (any_of HT_.out (by kernel_rfl)) (fun _ _ _ h => h) (Or.inl ⟨by rfl, ?_⟩) ?_ ?_
              rotate_left
              · intro w'
                go_simp
                with_reducible rfl
              rotate_left
              · simp only [Act.put, List.setIfInBounds_toArray, List.set_cons_zero, List.set_cons_succ, i64_w, i32_w]
                rfl
              refine pure_ (i := 2) (N := some 47) (v := ?_) (a' := ?_) #[true, true, true, false, false, false, false, false, false, false, false] rfl rfl (any_of HT_.out (by kernel_rfl)) (fun _ _ _ h => h) (Or.inl ⟨by rfl, ?_⟩) ?_ ?_
              rotate_left
              · intro w'
                go_simp
                with_reducible rfl
              rotate_left
              · simp only [Act.put, List.setIfInBounds_toArray, List.set_cons_zero, List.set_cons_succ, i64_w, i32_w]
                rfl
              refine pure_ (i := 4) (N := some 49) (v := ?_) (a' := ?_) #[true, true, true, false, true, false, false, false, false, false, false] rfl rfl (any_of HT_.out (by kernel_rfl)) (fun _ _ _ h => h) (Or.inl ⟨by rfl, ?_⟩) ?_ ?_
              rotate_left
              · intro w'
                go_simp
                with_reducible rfl
              rotate_left
              · simp only [Act.put, List.setIfInBounds_toArray, List.set_cons_zero, List.set_cons_succ, i64_w, i32_w]
                rfl
              refine pure_ (i := 7) (N := some 52) (v := ?_) (a' := ?_) #[true, true, true, false, true, false, false, true, false, false, false] rfl rfl (any_of HT_.out (by kernel_rfl)) (fun _ _ _ h => h) (Or.inl ⟨by rfl, ?_⟩) ?_ ?_
              rotate_left
              · intro w'
                go_simp
                with_reducible rfl
              rotate_left
              · simp only [Act.put, List.setIfInBounds_toArray, List.set_cons_zero, List.set_cons_succ, i64_w, i32_w]
                rfl
              refine take_ (i := 3) (N := some 48) (v := ?_) (a' := ?_) #[true, true, true, true, true, false, false, true, false, false, false] rfl rfl (take_ofW HT_.out HW_.out (by kernel_rfl)) (fun _ _ _ h => h) (Or.inl ⟨by rfl, ?_⟩) hHeld ?_ ?_
              rotate_left
              · rintro w' ⟨s0, s1, s2⟩
                go_simp
                with_reducible rfl
              rotate_left
              · simp only [Act.put, List.setIfInBounds_toArray, List.set_cons_zero, List.set_cons_succ, i64_w, i32_w]
                rfl
              refine take_ (i := 6) (N := some 51) (v := ?_) (a' := ?_) #[true, true, true, true, true, false, true, true, false, false, false] rfl rfl (take_ofW HT_.out HW_.out (by kernel_rfl)) (fun _ _ _ h => h) (Or.inl ⟨by rfl, ?_⟩) hHeld ?_ ?_
              rotate_left
              · rintro w' ⟨s0, s1, s2⟩
                go_simp
                with_reducible rfl
              rotate_left
              · simp only [Act.put, List.setIfInBounds_toArray, List.set_cons_zero, List.set_cons_succ, i64_w, i32_w]
                rfl
              refine one_ (i := 5) (N := some 50) #[true, true, true, true, true, true, true, true, false, false, false] rfl rfl (one_of HT_.out (by kernel_rfl)) (by decide) (fun K hK => ?_)
              refine goes_ Try.func14 (by kernel_rfl) rfl #[.agg #[.int .i64 t437, .int .i64 t438, .int .i64 t439], .int .u64 a2] (by rfl) rfl rfl (by (try simp only [List.map_toArray, List.map_cons, List.map_nil]); first | done | rfl | (simp only [List.length_drop, List.length_take]; rfl)) ?_
              with_reducible refine (format_Form_Neg.calls t437 t438 t439 a2 t449 _ A24.out).mono ?_
              rintro e w27 ⟨rfl, hb⟩
              refine ⟨_, rfl, ?_⟩
              have n0_ := Aside0.mk (Kd.R_below (by (with_reducible repeat (first | apply Kd.R_alloc | apply Kd.R_drewN | apply Kd.R_drew)); exact HO444.out) hb)
              have n1_ := Aside0.mk (Kd.N_below (by (with_reducible repeat (first | apply Kd.N_alloc | apply Kd.N_drewN | apply Kd.N_drew)); exact HO447.out) hb)
              have n2_ := Aside0.mk (blk_below (g := gb441) (o := .cells #[.int .i64 t437, .int .i64 t438, .int .i64 t439] 25 (0, 0)) (by (with_reducible repeat (first | refine blk_drewN ?_ _ | refine blk_drew ?_ | refine blk_alloc ?_ _)); exact BK441.out) hb)
              have n3_ := Aside0.mk (below_step (by repeat (first | (with_reducible first | exact HB.out | apply below_alloc | apply pw_below_drewN | apply below_drew1 | refine below_set ?_ GE441.out) | exact HB.out)) hb)
              clear HO444
              clear HO447
              clear BK441
              clear HB
              have HO444 := n0_
              have HO447 := n1_
              have BK441 := n2_
              have HB := n3_
              clear n0_ n1_ n2_ n3_
              (try clear hb)
              (try clear hb2)
              (try clear hk)
              (try clear hi)
              refine hK.out _ _ ⟨(blk_cell BK441.out 0).trans rfl, (blk_cell BK441.out 1).trans rfl, (blk_cell BK441.out 2).trans rfl⟩ (fun hHeld => ?_)
              clear hK K
              refine norm_ (a' := ?_) ?_ ?_
              rotate_left
              · show Act.put _ (some 50) _ = _
                simp only [Act.put, List.setIfInBounds_toArray, List.set_cons_zero, List.set_cons_succ, i64_w, i32_w]
                rfl
              refine one_ (i := 8) (N := some 53) #[true, true, true, true, true, true, true, true, true, false, false] rfl rfl (one_of HT_.out (by kernel_rfl)) (by decide) (fun K hK => ?_)
              refine goes_ Try.func14 (by kernel_rfl) rfl #[.agg #[.int .i64 t437, .int .i64 t438, .int .i64 t439], .int .u64 a3] (by rfl) rfl rfl (by (try simp only [List.map_toArray, List.map_cons, List.map_nil]); first | done | rfl | (simp only [List.length_drop, List.length_take]; rfl)) ?_
              with_reducible refine (format_Form_Neg.calls t437 t438 t439 a3 t450 _ A25.out).mono ?_
              rintro e w28 ⟨rfl, hb⟩
              refine ⟨_, rfl, ?_⟩
              have n0_ := Aside0.mk (Kd.R_below (by (with_reducible repeat (first | apply Kd.R_alloc | apply Kd.R_drewN | apply Kd.R_drew)); exact HO444.out) hb)
              have n1_ := Aside0.mk (Kd.N_below (by (with_reducible repeat (first | apply Kd.N_alloc | apply Kd.N_drewN | apply Kd.N_drew)); exact HO447.out) hb)
              have n2_ := Aside0.mk (blk_below (g := gb441) (o := .cells #[.int .i64 t437, .int .i64 t438, .int .i64 t439] 25 (0, 0)) (by (with_reducible repeat (first | refine blk_drewN ?_ _ | refine blk_drew ?_ | refine blk_alloc ?_ _)); exact BK441.out) hb)
              have n3_ := Aside0.mk (below_step (by repeat (first | (with_reducible first | exact HB.out | apply below_alloc | apply pw_below_drewN | apply below_drew1 | refine below_set ?_ GE441.out) | exact HB.out)) hb)
              clear HO444
              clear HO447
              clear BK441
              clear HB
              have HO444 := n0_
              have HO447 := n1_
              have BK441 := n2_
              have HB := n3_
              clear n0_ n1_ n2_ n3_
              (try clear hb)
              (try clear hb2)
              (try clear hk)
              (try clear hi)
              refine hK.out _ _ ⟨(blk_cell BK441.out 0).trans rfl, (blk_cell BK441.out 1).trans rfl, (blk_cell BK441.out 2).trans rfl⟩ (fun hHeld => ?_)
              clear hK K
              refine norm_ (a' := ?_) ?_ ?_
              rotate_left
              · show Act.put _ (some 53) _ = _
                simp only [Act.put, List.setIfInBounds_toArray, List.set_cons_zero, List.set_cons_succ, i64_w, i32_w]
                rfl
              refine pure_ (i := 9) (N := some 54) (v := ?_) (a' := ?_) #[true, true, true, true, true, true, true, true, true, true, false] rfl rfl (any_of HT_.out (by kernel_rfl)) (fun _ _ _ h => h) (Or.inl ⟨by rfl, ?_⟩) ?_ ?_
              rotate_left
              · intro w'
                go_simp
                with_reducible rfl
              rotate_left
              · simp only [Act.put, List.setIfInBounds_toArray, List.set_cons_zero, List.set_cons_succ, i64_w, i32_w]
                rfl
              refine pure_ (i := 10) (N := some 55) (v := ?_) (a' := ?_) #[true, true, true, true, true, true, true, true, true, true, true] rfl rfl (any_of HT_.out (by kernel_rfl)) (fun _ _ _ h => h) (Or.inl ⟨by rfl, ?_⟩) ?_ ?_
              rotate_left
              · intro w'
                go_simp
                with_reducible rfl
              rotate_left
              · simp only [Act.put, List.setIfInBounds_toArray, List.set_cons_zero, List.set_cons_succ, i64_w, i32_w]
                rfl
              refine done_ (done_of HT_.out (by kernel_rfl)) ?_
              try go_wp2
              go_meet
              case rel => exact ⟨_, ((t449 != t450)), (by first | rfl | (simp; done) | (simp [*]; done) | (simp; omega)), H', ⟨by have := HJ7.out; first | omega | exact Nat.le_refl _⟩, ⟨by (with_reducible repeat (first | apply Kd.N_alloc | apply Kd.N_drewN | apply Kd.N_drew)); exact Kd.N_mono HO447.out (fun _ hk => hk.2)⟩, ⟨by (with_reducible repeat (first | refine blk_drewN ?_ _ | refine blk_drew ?_ | refine blk_alloc ?_ _)); exact BK441.out⟩, ⟨by repeat (first | (with_reducible first | exact HB.out | apply below_alloc | apply pw_below_drewN | apply below_drew1 | refine below_set ?_ GE441.out) | exact HB.out)⟩⟩
            · replace c23 := Bool.eq_false_iff.mpr c23
              subst c23
              have H1 : (slipsticklaw05_IeeeNear.j1 kj7 a1 a2 a3 t445 true t437 t438 t439) = some r := by rw [if_neg (show ¬ (false = true) by decide)] at H; exact H
              clear H
              have H := H1
              clear H1
              have H' := Aside0.mk H
              clear H
              try go_wp2
              have n0_ := Aside0.mk (Kd.R_drew HO444.out)
              have n1_ := Aside0.mk (Kd.N_drew HO447.out)
              have n2_ := Aside0.mk (blk_drew BK441.out)
              have n3_ := Aside0.mk (below_drew1 HB.out)
              clear HO444
              clear HO447
              clear BK441
              clear HB
              have HO444 := n0_
              have HO447 := n1_
              have BK441 := n2_
              have HB := n3_
              clear n0_ n1_ n2_ n3_
              refine start_ (n := 11) (S := fun w' => True) (ds := []) #[false, false, false, false, false, false, false, false, false, false, false] (by kernel_rfl) rfl rfl trivial (fun hHeld => ?_); refine with_tabW slipsticklaw05_IeeeNear.tab7 slipsticklaw05_IeeeNear.bits7 (fun HT_ HW_ => ?_)
              generalize w22.drew = w29 at HO444 HO447 BK441 HB hHeld ⊢
              refine pure_ (i := 0) (N := some 45) (v := ?_) (a' := ?_) #[true, false, false, false, false, false, false, false, false, false, false] rfl rfl (any_of HT_.out (by kernel_rfl)) (fun _ _ _ h => h) (Or.inl ⟨by rfl, ?_⟩) ?_ ?_
              rotate_left
              · intro w'
                go_simp
                with_reducible rfl
              rotate_left
              · simp only [Act.put, List.setIfInBounds_toArray, List.set_cons_zero, List.set_cons_succ, i64_w, i32_w]
                rfl
              refine pure_ (i := 1) (N := some 46) (v := ?_) (a' := ?_) #[true, true, false, false, false, false, false, false, false, false, false] rfl rfl (any_of HT_.out (by kernel_rfl)) (fun _ _ _ h => h) (Or.inl ⟨by rfl, ?_⟩) ?_ ?_
              rotate_left
              · intro w'
                go_simp
                with_reducible rfl
              rotate_left
              · simp only [Act.put, List.setIfInBounds_toArray, List.set_cons_zero, List.set_cons_succ, i64_w, i32_w]
                rfl
              refine pure_ (i := 2) (N := some 47) (v := ?_) (a' := ?_) #[true, true, true, false, false, false, false, false, false, false, false] rfl rfl (any_of HT_.out (by kernel_rfl)) (fun _ _ _ h => h) (Or.inl ⟨by rfl, ?_⟩) ?_ ?_
              rotate_left
              · intro w'
                go_simp
                with_reducible rfl
              rotate_left
              · simp only [Act.put, List.setIfInBounds_toArray, List.set_cons_zero, List.set_cons_succ, i64_w, i32_w]
                rfl
              refine pure_ (i := 3) (N := some 48) (v := undef) (a' := ?_) #[true, true, true, true, false, false, false, false, false, false, false] rfl rfl (any_of HT_.out (by kernel_rfl)) (fun _ _ _ h => h) (Or.inr ⟨by rfl, rfl⟩) ?_ ?_
              rotate_left
              · simp only [Act.put, List.setIfInBounds_toArray, List.set_cons_zero, List.set_cons_succ, i64_w, i32_w]
                rfl
              refine pure_ (i := 4) (N := some 49) (v := undef) (a' := ?_) #[true, true, true, true, true, false, false, false, false, false, false] rfl rfl (any_of HT_.out (by kernel_rfl)) (fun _ _ _ h => h) (Or.inr ⟨by rfl, rfl⟩) ?_ ?_
              rotate_left
              · simp only [Act.put, List.setIfInBounds_toArray, List.set_cons_zero, List.set_cons_succ, i64_w, i32_w]
                rfl
              refine pure_ (i := 5) (N := some 50) (v := undef) (a' := ?_) #[true, true, true, true, true, true, false, false, false, false, false] rfl rfl (any_of HT_.out (by kernel_rfl)) (fun _ _ _ h => h) (Or.inr ⟨by rfl, rfl⟩) ?_ ?_
              rotate_left
              · simp only [Act.put, List.setIfInBounds_toArray, List.set_cons_zero, List.set_cons_succ, i64_w, i32_w]
                rfl
              refine pure_ (i := 6) (N := some 51) (v := undef) (a' := ?_) #[true, true, true, true, true, true, true, false, false, false, false] rfl rfl (any_of HT_.out (by kernel_rfl)) (fun _ _ _ h => h) (Or.inr ⟨by rfl, rfl⟩) ?_ ?_
              rotate_left
              · simp only [Act.put, List.setIfInBounds_toArray, List.set_cons_zero, List.set_cons_succ, i64_w, i32_w]
                rfl
              refine pure_ (i := 7) (N := some 52) (v := undef) (a' := ?_) #[true, true, true, true, true, true, true, true, false, false, false] rfl rfl (any_of HT_.out (by kernel_rfl)) (fun _ _ _ h => h) (Or.inr ⟨by rfl, rfl⟩) ?_ ?_
              rotate_left
              · simp only [Act.put, List.setIfInBounds_toArray, List.set_cons_zero, List.set_cons_succ, i64_w, i32_w]
                rfl
              refine pure_ (i := 8) (N := some 53) (v := undef) (a' := ?_) #[true, true, true, true, true, true, true, true, true, false, false] rfl rfl (any_of HT_.out (by kernel_rfl)) (fun _ _ _ h => h) (Or.inr ⟨by rfl, rfl⟩) ?_ ?_
              rotate_left
              · simp only [Act.put, List.setIfInBounds_toArray, List.set_cons_zero, List.set_cons_succ, i64_w, i32_w]
                rfl
              refine pure_ (i := 9) (N := some 54) (v := undef) (a' := ?_) #[true, true, true, true, true, true, true, true, true, true, false] rfl rfl (any_of HT_.out (by kernel_rfl)) (fun _ _ _ h => h) (Or.inr ⟨by rfl, rfl⟩) ?_ ?_
              rotate_left
              · simp only [Act.put, List.setIfInBounds_toArray, List.set_cons_zero, List.set_cons_succ, i64_w, i32_w]
                rfl
              refine pure_ (i := 10) (N := some 55) (v := ?_) (a' := ?_) #[true, true, true, true, true, true, true, true, true, true, true] rfl rfl (any_of HT_.out (by kernel_rfl)) (fun _ _ _ h => h) (Or.inl ⟨by rfl, ?_⟩) ?_ ?_
              rotate_left
              · intro w'
                go_simp
                with_reducible rfl
              rotate_left
              · simp only [Act.put, List.setIfInBounds_toArray, List.set_cons_zero, List.set_cons_succ, i64_w, i32_w]
                rfl
              refine done_ (done_of HT_.out (by kernel_rfl)) ?_
              try go_wp2
              go_meet
              case rel => exact ⟨_, (true), (by first | rfl | (simp; done) | (simp [*]; done) | (simp; omega)), H', ⟨by have := HJ7.out; first | omega | exact Nat.le_refl _⟩, ⟨by (with_reducible repeat (first | apply Kd.N_alloc | apply Kd.N_drewN | apply Kd.N_drew)); exact Kd.N_mono HO447.out (fun _ hk => hk.2)⟩, ⟨by (with_reducible repeat (first | refine blk_drewN ?_ _ | refine blk_drew ?_ | refine blk_alloc ?_ _)); exact BK441.out⟩, ⟨by repeat (first | (with_reducible first | exact HB.out | apply below_alloc | apply pw_below_drewN | apply below_drew1 | refine below_set ?_ GE441.out) | exact HB.out)⟩⟩
          case rest =>
            clear HC17
            try clear c1
            try clear c2
            try clear p2
            try clear c3
            try clear c6
            try clear c11
            try clear c12
            try clear c13
            try clear c13b0
            try clear c13b1
            try clear c14
            try clear c14b0
            try clear c15
            try clear c23
            try clear hcz12_0
            try clear hcz12_1
            try clear hcz12_2
            try clear hcz18_0
            try clear hcz18_1
            try clear hcz18_2
            try clear hfz12_0
            try clear hfz12_1
            try clear hfz12_2
            try clear hfz18_0
            try clear hfz18_1
            try clear hfz18_2
            try clear p2
            obtain ⟨kq, x55_16, rfl, HA, HJ16, HO_11, BK441, HB⟩ := hcut
            cases kq with
            | zero => exact absurd HA.out (by simp [slipsticklaw05_IeeeNear.j1])
            | succ kj16 =>
              have H := HA.out
              clear HA
              simp only [slipsticklaw05_IeeeNear.j1] at H
              by_cases c30 : x55_16 = true
              · subst c30
                have H1 : (some true) = some r := by rw [if_pos rfl] at H; exact H
                clear H
                have H := H1
                clear H1
                obtain rfl := Option.some.inj H
                go_wp2
                go_ret
                exact ⟨by first | rfl | (simp [errW_none, errW_some] <;> rfl) | (simp [*, errW_none, errW_some] <;> rfl), by repeat (first | (with_reducible first | exact HB.out | apply below_alloc | apply pw_below_drewN | apply below_drew1 | refine below_set ?_ GE441.out) | exact HB.out)⟩
              · replace c30 := Bool.eq_false_iff.mpr c30
                subst c30
                have H1 : (if 0 < (t445.length : Int) then ((some (t445.set (0 : Int).toNat (⟨false, (rd_T36 t445 0).f1, (rd_T36 t445 0).f2⟩ : S36) : List (S36))).bind fun y451 => (if 1 < (t445.length : Int) then ((some (y451.set (1 : Int).toNat (⟨false, (rd_T36 y451 1).f1, (rd_T36 y451 1).f2⟩ : S36) : List (S36))).bind fun y452 => ((dyad_Cmp.f kj16 false ((rd_T36 y452 0).f1) (wrap64 (((rd_T36 y452 0).f2) + 1)) ((rd_T36 y452 1).f0) ((rd_T36 y452 1).f1) ((rd_T36 y452 1).f2)).bind fun bt456 => ((dyad_Cmp.f kj16 ((rd_T36 y452 0).f0) ((rd_T36 y452 0).f1) ((rd_T36 y452 0).f2) false ((rd_T36 y452 1).f1) (wrap64 (((rd_T36 y452 1).f2) + 1))).bind fun bt461 => (if bt456.2 = 0 then (slipsticklaw05_IeeeNear.j2 kj16 a1 a2 a3 bt456.1 bt461.1 (bt461.2 != 0) t437 t438 t439) else (slipsticklaw05_IeeeNear.j2 kj16 a1 a2 a3 bt456.1 bt461.1 true t437 t438 t439))))) else (none))) else (none)) = some r := by rw [if_neg (show ¬ (false = true) by decide)] at H; exact H
                clear H
                have H := H1
                clear H1
                by_cases c31 : 0 < (t445.length : Int)
                · rw [if_pos c31] at H
                  have c31b0 : decide (0 < (t445.length : Int)) = true := decide_eq_true c31
                  have c31b1 : decide (0 < t445.length) = true := decide_eq_true (by omega)
                  clear c31
                  obtain ⟨y451, hy451⟩ : ∃ y_ : List (S36), y_ = (t445.set (0 : Int).toNat (⟨false, (rd_T36 t445 0).f1, (rd_T36 t445 0).f2⟩ : S36)) := ⟨_, rfl⟩
                  replace H : (if 1 < (t445.length : Int) then ((some (y451.set (1 : Int).toNat (⟨false, (rd_T36 y451 1).f1, (rd_T36 y451 1).f2⟩ : S36) : List (S36))).bind fun y452 => ((dyad_Cmp.f kj16 false ((rd_T36 y452 0).f1) (wrap64 (((rd_T36 y452 0).f2) + 1)) ((rd_T36 y452 1).f0) ((rd_T36 y452 1).f1) ((rd_T36 y452 1).f2)).bind fun bt456 => ((dyad_Cmp.f kj16 ((rd_T36 y452 0).f0) ((rd_T36 y452 0).f1) ((rd_T36 y452 0).f2) false ((rd_T36 y452 1).f1) (wrap64 (((rd_T36 y452 1).f2) + 1))).bind fun bt461 => (if bt456.2 = 0 then (slipsticklaw05_IeeeNear.j2 kj16 a1 a2 a3 bt456.1 bt461.1 (bt461.2 != 0) t437 t438 t439) else (slipsticklaw05_IeeeNear.j2 kj16 a1 a2 a3 bt456.1 bt461.1 true t437 t438 t439))))) else (none)) = some r := by first | (rw [hy451]; with_reducible exact H) | (have H2_ := (Option.bind_some _ _).symm.trans H; rw [hy451]; with_reducible exact H2_) | (have H2_ := (Option.bind_some _ _).symm.trans H; with_reducible exact H2_) | with_reducible exact H | (rw [hy451]; exact H) | exact H
                  have Ny451 := Aside0.mk hy451
                  clear hy451
                  by_cases c33 : 1 < (t445.length : Int)
                  · rw [if_pos c33] at H
                    have c33b0 : decide (1 < (t445.length : Int)) = true := decide_eq_true c33
                    have c33b1 : decide (1 < t445.length) = true := decide_eq_true (by omega)
                    clear c33
                    obtain ⟨y452, hy452⟩ : ∃ y_ : List (S36), y_ = (y451.set (1 : Int).toNat (⟨false, (rd_T36 y451 1).f1, (rd_T36 y451 1).f2⟩ : S36)) := ⟨_, rfl⟩
                    replace H : ((dyad_Cmp.f kj16 false ((rd_T36 y452 0).f1) (wrap64 (((rd_T36 y452 0).f2) + 1)) ((rd_T36 y452 1).f0) ((rd_T36 y452 1).f1) ((rd_T36 y452 1).f2)).bind fun bt456 => ((dyad_Cmp.f kj16 ((rd_T36 y452 0).f0) ((rd_T36 y452 0).f1) ((rd_T36 y452 0).f2) false ((rd_T36 y452 1).f1) (wrap64 (((rd_T36 y452 1).f2) + 1))).bind fun bt461 => (if bt456.2 = 0 then (slipsticklaw05_IeeeNear.j2 kj16 a1 a2 a3 bt456.1 bt461.1 (bt461.2 != 0) t437 t438 t439) else (slipsticklaw05_IeeeNear.j2 kj16 a1 a2 a3 bt456.1 bt461.1 true t437 t438 t439)))) = some r := by first | (rw [hy452]; with_reducible exact H) | (have H2_ := (Option.bind_some _ _).symm.trans H; rw [hy452]; with_reducible exact H2_) | (have H2_ := (Option.bind_some _ _).symm.trans H; with_reducible exact H2_) | with_reducible exact H | (rw [hy452]; exact H) | exact H
                    have Ny452 := Aside0.mk hy452
                    clear hy452
                    replace H := Option.bind_eq_some_iff.mp H
                    obtain ⟨⟨t456, t457⟩, A350, H⟩ := H
                    replace H : ((dyad_Cmp.f kj16 ((rd_T36 y452 0).f0) ((rd_T36 y452 0).f1) ((rd_T36 y452 0).f2) false ((rd_T36 y452 1).f1) (wrap64 (((rd_T36 y452 1).f2) + 1))).bind fun bt461 => (if t457 = 0 then (slipsticklaw05_IeeeNear.j2 kj16 a1 a2 a3 t456 bt461.1 (bt461.2 != 0) t437 t438 t439) else (slipsticklaw05_IeeeNear.j2 kj16 a1 a2 a3 t456 bt461.1 true t437 t438 t439))) = some r := H
                    have A35 := Aside0.mk A350
                    clear A350
                    replace H := Option.bind_eq_some_iff.mp H
                    obtain ⟨⟨t461, t462⟩, A360, H⟩ := H
                    replace H : (if t457 = 0 then (slipsticklaw05_IeeeNear.j2 kj16 a1 a2 a3 t456 t461 (t462 != 0) t437 t438 t439) else (slipsticklaw05_IeeeNear.j2 kj16 a1 a2 a3 t456 t461 true t437 t438 t439)) = some r := H
                    have A36 := Aside0.mk A360
                    clear A360
                    have HC37 := Aside0.mk H
                    clear H
                    have p32 : 0 ≤ (0 : Int) := (by omega)
                    have q32 : (0 : Int) < ((t445.length : Int) : Int) := of_decide_eq_true (by first | (with_reducible assumption) | assumption)
                    have qi32 : (0 < t445.length) = True := eq_true (by omega)
                    obtain ⟨go32, co32, eo32, gb32, gl32, cl32, HG32⟩ := Kd.N_form HO_11.out (by omega)
                    (first | cases eo32 | (injection eo32 with ea_ en_ ec_; (first | subst ea_ | (injection ea_ with ea_; subst ea_)); subst ec_; clear en_))
                    have GB32 := Aside0.mk gb32
                    have GG32 := Aside0.mk HG32
                    clear gb32 gl32 HG32
                    obtain ⟨ce32, hcl32, hM32, hcc32, hfr32⟩ := Kd.N_elem HO_11.out z36 (0 : Int) p32 q32
                    obtain ⟨ua32_1, uc32_1, rfl, ul32_1, ge32_1⟩ := k36_openF hM32
                    have hx32_0 : wc.cell? ⟨go32, (0 : Int).toNat * 3, none⟩ = some (.bool ((rd_T36 t445 0).f0)) := hcc32 0 _ rfl
                    have hx32_1 : wc.cell? ⟨go32, (0 : Int).toNat * 3 + 1, none⟩ = some (.slice ua32_1 ((rd_T36 t445 0).f1).length uc32_1) := hcc32 1 _ rfl
                    have hx32_2 : wc.cell? ⟨go32, (0 : Int).toNat * 3 + 2, none⟩ = some (.int .i64 ((rd_T36 t445 0).f2)) := hcc32 2 _ rfl
                    have hf32_0 : wc.frozen? ⟨go32, (0 : Int).toNat * 3, none⟩ = false := hfr32 0
                    have hf32_1 : wc.frozen? ⟨go32, (0 : Int).toNat * 3 + 1, none⟩ = false := hfr32 1
                    have hf32_2 : wc.frozen? ⟨go32, (0 : Int).toNat * 3 + 2, none⟩ = false := hfr32 2
                    clear hcl32 hcc32 hfr32 hM32
                    (try rw [show ((0 : Int)).toNat = 0 from rfl] at hx32_0)
                    (try simp only [Nat.reduceMul, Nat.zero_mul, Nat.zero_add, Nat.reduceAdd] at hx32_0)
                    (try rw [show ((0 : Int)).toNat = 0 from rfl] at hf32_0)
                    (try simp only [Nat.reduceMul, Nat.zero_mul, Nat.zero_add, Nat.reduceAdd] at hf32_0)
                    (try rw [show ((0 : Int)).toNat = 0 from rfl] at hx32_1)
                    (try simp only [Nat.reduceMul, Nat.zero_mul, Nat.zero_add, Nat.reduceAdd] at hx32_1)
                    (try rw [show ((0 : Int)).toNat = 0 from rfl] at hf32_1)
                    (try simp only [Nat.reduceMul, Nat.zero_mul, Nat.zero_add, Nat.reduceAdd] at hf32_1)
                    (try rw [show ((0 : Int)).toNat = 0 from rfl] at hx32_2)
                    (try simp only [Nat.reduceMul, Nat.zero_mul, Nat.zero_add, Nat.reduceAdd] at hx32_2)
                    (try rw [show ((0 : Int)).toNat = 0 from rfl] at hf32_2)
                    (try simp only [Nat.reduceMul, Nat.zero_mul, Nat.zero_add, Nat.reduceAdd] at hf32_2)
                    replace p32 := eq_true p32
                    replace q32 := eq_true q32
                    have HX38 := Aside0.mk (show Kd.N k36 36 wc w.heap.size (fun k_ => k_ ≠ gb441) (.slice (some ⟨go32, 0, none⟩) t445.length co32) t445 from (by (with_reducible repeat (first | apply Kd.N_alloc | apply Kd.N_drewN | apply Kd.N_drew)); exact HO_11.out))
                    obtain ⟨ce38, hcl38, hM38, hcc38, hfr38⟩ := Kd.N_elem HX38.out z36 (0 : Int) (by omega) (by have h_ : (0 : Int) < ((t445.length : Int) : Int) := of_decide_eq_true (by first | (with_reducible assumption) | assumption); first | exact h_ | (have e_ := (Kd.N_reads' HO_11.out).1; omega) | simpa using h_)
                    obtain ⟨ua38_1, uc38_1, rfl, ul38_1, ge38_1⟩ := k36_openF hM38
                    have HP38 := Kd.N_seg HX38.out (0 : Int) (by omega) (by have h_ : (0 : Int) < ((t445.length : Int) : Int) := of_decide_eq_true (by first | (with_reducible assumption) | assumption); first | exact h_ | (have e_ := (Kd.N_reads' HO_11.out).1; omega) | simpa using h_) (seg := [.bool false]) (j := 0) hcl38 hcc38 (show 1 ≤ 3 from by decide) (x' := (⟨false, (rd_T36 t445 0).f1, (rd_T36 t445 0).f2⟩ : S36)) (k36_mkF _ _ (⟨false, (rd_T36 t445 0).f1, (rd_T36 t445 0).f2⟩ : S36) ul38_1 ge38_1) (fun _ hk => hk)
                    have hx38_0 := hcc38 0 _ rfl
                    (try simp only [show (k36).sz = 3 from rfl, Nat.mul_one, Nat.add_zero] at hx38_0)
                    (try rw [show ((0 : Int)).toNat = 0 from rfl] at hx38_0)
                    (try simp only [Nat.reduceMul, Nat.zero_mul, Nat.zero_add, Nat.reduceAdd] at hx38_0)
                    have hf38_0 := hfr38 0
                    (try simp only [show (k36).sz = 3 from rfl, Nat.mul_one, Nat.add_zero] at hf38_0)
                    (try rw [show ((0 : Int)).toNat = 0 from rfl] at hf38_0)
                    (try simp only [Nat.reduceMul, Nat.zero_mul, Nat.zero_add, Nat.reduceAdd] at hf38_0)
                    clear hcl38 hcc38 hfr38 hM38
                    try go_wp2_with (first | ((with_reducible refine gate_store (t := 4) (p := 59) rfl ?_); refine store_event (t := 4) (p := 59) (v := ?vo_w39) (w1 := (wc.setCell ⟨go32, 0, none⟩ (.bool false))) ?hg ?ho ?hn ?hr ?_; (case ho => rfl); (case hg => rfl); (case hn => rfl); (case hr => first | (go_simp; done) | (go_simp; rfl)); intro w39 hw; have hg : wc.grownBy w39 (some go32) := (by rw [hw]; exact HP38.2); have hp_ : Kd.N k36 36 w39 w.heap.size (fun k_ => k_ ≠ gb441) (.slice (some ⟨go32, 0, none⟩) t445.length co32) y451 := (by rw [hw, Ny451.out]; exact HP38.1); clear HP38; have n0_ := Aside0.mk (hp_); have n1_ := Aside0.mk (blk_grown (g := gb441) (o := .cells #[.int .i64 t437, .int .i64 t438, .int .i64 t439] 25 (0, 0)) (by (with_reducible repeat (first | refine blk_drewN ?_ _ | refine blk_drew ?_ | refine blk_alloc ?_ _)); exact BK441.out) hg (Kd.N_ne HO_11.out BK441.out (by decide))); have n2_ := Aside0.mk ((by rw [hw]; exact below_set (HB.out) GB32.out : Below w.heap.size w w39)); clear HO_11; clear BK441; clear HB; have HO_11 := n0_; have BK441 := n1_; have HB := n2_; clear n0_ n1_ n2_; clear hg hw hp_; have p34 : 0 ≤ (1 : Int) := (by omega); have q34 : (1 : Int) < ((t445.length : Int) : Int) := of_decide_eq_true (by first | (with_reducible assumption) | assumption); have qi34 : (1 < t445.length) = True := eq_true (by omega); obtain ⟨ce34, hcl34, hM34, hcc34, hfr34⟩ := Kd.N_elem HO_11.out z36 (1 : Int) p34 q34; obtain ⟨ua34_1, uc34_1, rfl, ul34_1, ge34_1⟩ := k36_openF hM34; have hx34_0 : w39.cell? ⟨go32, (1 : Int).toNat * 3, none⟩ = some (.bool ((rd_T36 y451 1).f0)) := hcc34 0 _ rfl; have hx34_1 : w39.cell? ⟨go32, (1 : Int).toNat * 3 + 1, none⟩ = some (.slice ua34_1 ((rd_T36 y451 1).f1).length uc34_1) := hcc34 1 _ rfl; have hx34_2 : w39.cell? ⟨go32, (1 : Int).toNat * 3 + 2, none⟩ = some (.int .i64 ((rd_T36 y451 1).f2)) := hcc34 2 _ rfl; have hf34_0 : w39.frozen? ⟨go32, (1 : Int).toNat * 3, none⟩ = false := hfr34 0; have hf34_1 : w39.frozen? ⟨go32, (1 : Int).toNat * 3 + 1, none⟩ = false := hfr34 1; have hf34_2 : w39.frozen? ⟨go32, (1 : Int).toNat * 3 + 2, none⟩ = false := hfr34 2; clear hcl34 hcc34 hfr34 hM34; (try rw [show ((1 : Int)).toNat = 1 from rfl] at hx34_0); (try simp only [Nat.reduceMul, Nat.zero_mul, Nat.zero_add, Nat.reduceAdd] at hx34_0); (try rw [show ((1 : Int)).toNat = 1 from rfl] at hf34_0); (try simp only [Nat.reduceMul, Nat.zero_mul, Nat.zero_add, Nat.reduceAdd] at hf34_0); (try rw [show ((1 : Int)).toNat = 1 from rfl] at hx34_1); (try simp only [Nat.reduceMul, Nat.zero_mul, Nat.zero_add, Nat.reduceAdd] at hx34_1); (try rw [show ((1 : Int)).toNat = 1 from rfl] at hf34_1); (try simp only [Nat.reduceMul, Nat.zero_mul, Nat.zero_add, Nat.reduceAdd] at hf34_1); (try rw [show ((1 : Int)).toNat = 1 from rfl] at hx34_2); (try simp only [Nat.reduceMul, Nat.zero_mul, Nat.zero_add, Nat.reduceAdd] at hx34_2); (try rw [show ((1 : Int)).toNat = 1 from rfl] at hf34_2); (try simp only [Nat.reduceMul, Nat.zero_mul, Nat.zero_add, Nat.reduceAdd] at hf34_2); replace p34 := eq_true p34; replace q34 := eq_true q34; have HX40 := Aside0.mk (show Kd.N k36 36 w39 w.heap.size (fun k_ => k_ ≠ gb441) (.slice (some ⟨go32, 0, none⟩) t445.length co32) y451 from (by (with_reducible repeat (first | apply Kd.N_alloc | apply Kd.N_drewN | apply Kd.N_drew)); exact HO_11.out)); obtain ⟨ce40, hcl40, hM40, hcc40, hfr40⟩ := Kd.N_elem HX40.out z36 (1 : Int) (by omega) (by have h_ : (1 : Int) < ((t445.length : Int) : Int) := of_decide_eq_true (by first | (with_reducible assumption) | assumption); first | exact h_ | (have e_ := (Kd.N_reads' HO_11.out).1; omega) | simpa using h_); obtain ⟨ua40_1, uc40_1, rfl, ul40_1, ge40_1⟩ := k36_openF hM40; have HP40 := Kd.N_seg HX40.out (1 : Int) (by omega) (by have h_ : (1 : Int) < ((t445.length : Int) : Int) := of_decide_eq_true (by first | (with_reducible assumption) | assumption); first | exact h_ | (have e_ := (Kd.N_reads' HO_11.out).1; omega) | simpa using h_) (seg := [.bool false]) (j := 0) hcl40 hcc40 (show 1 ≤ 3 from by decide) (x' := (⟨false, (rd_T36 y451 1).f1, (rd_T36 y451 1).f2⟩ : S36)) (k36_mkF _ _ (⟨false, (rd_T36 y451 1).f1, (rd_T36 y451 1).f2⟩ : S36) ul40_1 ge40_1) (fun _ hk => hk); have hx40_0 := hcc40 0 _ rfl; (try simp only [show (k36).sz = 3 from rfl, Nat.mul_one, Nat.add_zero] at hx40_0); (try rw [show ((1 : Int)).toNat = 1 from rfl] at hx40_0); (try simp only [Nat.reduceMul, Nat.zero_mul, Nat.zero_add, Nat.reduceAdd] at hx40_0); have hf40_0 := hfr40 0; (try simp only [show (k36).sz = 3 from rfl, Nat.mul_one, Nat.add_zero] at hf40_0); (try rw [show ((1 : Int)).toNat = 1 from rfl] at hf40_0); (try simp only [Nat.reduceMul, Nat.zero_mul, Nat.zero_add, Nat.reduceAdd] at hf40_0); clear hcl40 hcc40 hfr40 hM40) | ((with_reducible refine gate_store (t := 4) (p := 61) rfl ?_); refine store_event (t := 4) (p := 61) (v := ?vo_w41) (w1 := (w39.setCell ⟨go32, 3, none⟩ (.bool false))) ?hg ?ho ?hn ?hr ?_; (case ho => rfl); (case hg => rfl); (case hn => rfl); (case hr => first | (go_simp; done) | (go_simp; rfl)); intro w41 hw; have hg : w39.grownBy w41 (some go32) := (by rw [hw]; exact HP40.2); have hp_ : Kd.N k36 36 w41 w.heap.size (fun k_ => k_ ≠ gb441) (.slice (some ⟨go32, 0, none⟩) t445.length co32) y452 := (by rw [hw, Ny452.out]; exact HP40.1); clear HP40; have n0_ := Aside0.mk (hp_); have n1_ := Aside0.mk (blk_grown (g := gb441) (o := .cells #[.int .i64 t437, .int .i64 t438, .int .i64 t439] 25 (0, 0)) (by (with_reducible repeat (first | refine blk_drewN ?_ _ | refine blk_drew ?_ | refine blk_alloc ?_ _)); exact BK441.out) hg (Kd.N_ne HO_11.out BK441.out (by decide))); have n2_ := Aside0.mk ((by rw [hw]; exact below_set (HB.out) GB32.out : Below w.heap.size w w41)); clear HO_11; clear BK441; clear HB; have HO_11 := n0_; have BK441 := n1_; have HB := n2_; clear n0_ n1_ n2_; clear hg hw hp_))
                    have n0_ := Aside0.mk (Kd.N_drew HO_11.out)
                    have n1_ := Aside0.mk (blk_drew BK441.out)
                    have n2_ := Aside0.mk (below_drew1 HB.out)
                    clear HO_11
                    clear BK441
                    clear HB
                    have HO_11 := n0_
                    have BK441 := n1_
                    have HB := n2_
                    clear n0_ n1_ n2_
                    have p453 : 0 ≤ (0 : Int) := (by omega)
                    have q453 : 0 < (y452.length : Int) := (by have h_ : (0 : Int) < ((t445.length : Int) : Int) := of_decide_eq_true (by first | (with_reducible assumption) | assumption); first | (have e_ := (Kd.N_reads' HO_11.out).1; omega) | simpa only [Ny451.out, Ny452.out, List.length_set] using h_)
                    have ql453 : ((0 : Int) < ((t445.length : Int) : Int)) = True := eq_true (of_decide_eq_true (by first | (with_reducible assumption) | assumption))
                    (try have qn453 : (0 < t445.length) = True := eq_true (by have h_ : (0 : Int) < ((t445.length : Int) : Int) := of_decide_eq_true (by first | (with_reducible assumption) | assumption); omega))
                    obtain ⟨ad453, A453_1, c453_1, e453, hx453_0, hx453_1, hx453_2, hl453_1, hi453_1⟩ := at_T36 (Kd.N_reads' HO_11.out).2.2 0 p453 q453
                    obtain rfl : (⟨go32, 0, none⟩ : Addr) = ad453 := (by injection e453)
                    obtain ⟨ce453, hce453, hMe453, hcc453⟩ := Kd.N_get HO_11.out z36 0 p453 (by first | exact q453 | exact of_decide_eq_true (by first | (with_reducible assumption) | assumption) | (have e_ := (Kd.N_reads' HO_11.out).1; omega))
                    obtain ⟨ua453_1, uc453_1, rfl, ul453_1, ge453_1⟩ := k36_openF hMe453
                    have hv453_1 := hcc453 1 _ rfl
                    rw [add_field _ _ 1 (by omega)] at hv453_1
                    replace hv453_1 := Option.some.inj (hv453_1.symm.trans hx453_1)
                    injection hv453_1 with hva_ hvn_ hvc_
                    rw [hva_] at ge453_1
                    rw [hvc_] at ul453_1
                    have HL453_1 := Aside0.mk (show Kd.V (Kd.int .u32) 89 _ w.heap.size _ _ ((rd_T36 y452 0).f1) from Kd.V_mk ul453_1 ge453_1)
                    clear hva_ hvn_ hvc_ ge453_1 ul453_1
                    clear hcc453 hce453
                    (first | simp only [add_plain] at hx453_0 | simp only [add_at] at hx453_0 | simp only [Addr.add, Nat.zero_add] at hx453_0 | skip)
                    (first | simp only [add_plain] at hx453_1 | simp only [add_at] at hx453_1 | simp only [Addr.add, Nat.zero_add] at hx453_1 | skip)
                    (first | simp only [add_plain] at hx453_2 | simp only [add_at] at hx453_2 | simp only [Addr.add, Nat.zero_add] at hx453_2 | skip)
                    have qi453 : (0 < y452.length) = True := eq_true (by omega)
                    (try rw [show ((0 : Int)).toNat = 0 from rfl] at hx453_0)
                    (try rw [show 0 * 3 = 0 from rfl] at hx453_0)
                    (try rw [Addr.add_zero'] at hx453_0)
                    (try rw [show ((0 : Int)).toNat = 0 from rfl] at hx453_1)
                    (try rw [show 0 * 3 = 0 from rfl] at hx453_1)
                    (try rw [Addr.add_zero'] at hx453_1)
                    (try rw [show ((0 : Int)).toNat = 0 from rfl] at hx453_2)
                    (try rw [show 0 * 3 = 0 from rfl] at hx453_2)
                    (try rw [Addr.add_zero'] at hx453_2)
                    have HR453_1 := Aside0.mk hi453_1
                    have HC453_1 := Aside0.mk hl453_1
                    clear hi453_1 hl453_1
                    replace p453 := eq_true p453
                    replace q453 := eq_true q453
                    have p454 : 0 ≤ (0 : Int) := (by omega)
                    have q454 : 0 < (y452.length : Int) := (by have h_ : (0 : Int) < ((t445.length : Int) : Int) := of_decide_eq_true (by first | (with_reducible assumption) | assumption); first | (have e_ := (Kd.N_reads' HO_11.out).1; omega) | simpa only [Ny451.out, Ny452.out, List.length_set] using h_)
                    have ql454 : ((0 : Int) < ((t445.length : Int) : Int)) = True := eq_true (of_decide_eq_true (by first | (with_reducible assumption) | assumption))
                    (try have qn454 : (0 < t445.length) = True := eq_true (by have h_ : (0 : Int) < ((t445.length : Int) : Int) := of_decide_eq_true (by first | (with_reducible assumption) | assumption); omega))
                    obtain ⟨ad454, A454_1, c454_1, e454, hx454_0, hx454_1, hx454_2, hl454_1, hi454_1⟩ := at_T36 (Kd.N_reads' HO_11.out).2.2 0 p454 q454
                    obtain rfl : (⟨go32, 0, none⟩ : Addr) = ad454 := (by injection e454)
                    obtain ⟨ce454, hce454, hMe454, hcc454⟩ := Kd.N_get HO_11.out z36 0 p454 (by first | exact q454 | exact of_decide_eq_true (by first | (with_reducible assumption) | assumption) | (have e_ := (Kd.N_reads' HO_11.out).1; omega))
                    obtain ⟨ua454_1, uc454_1, rfl, ul454_1, ge454_1⟩ := k36_openF hMe454
                    have hv454_1 := hcc454 1 _ rfl
                    rw [add_field _ _ 1 (by omega)] at hv454_1
                    replace hv454_1 := Option.some.inj (hv454_1.symm.trans hx454_1)
                    injection hv454_1 with hva_ hvn_ hvc_
                    rw [hva_] at ge454_1
                    rw [hvc_] at ul454_1
                    have HL454_1 := Aside0.mk (show Kd.V (Kd.int .u32) 89 _ w.heap.size _ _ ((rd_T36 y452 0).f1) from Kd.V_mk ul454_1 ge454_1)
                    clear hva_ hvn_ hvc_ ge454_1 ul454_1
                    clear hcc454 hce454
                    (first | simp only [add_plain] at hx454_0 | simp only [add_at] at hx454_0 | simp only [Addr.add, Nat.zero_add] at hx454_0 | skip)
                    (first | simp only [add_plain] at hx454_1 | simp only [add_at] at hx454_1 | simp only [Addr.add, Nat.zero_add] at hx454_1 | skip)
                    (first | simp only [add_plain] at hx454_2 | simp only [add_at] at hx454_2 | simp only [Addr.add, Nat.zero_add] at hx454_2 | skip)
                    have qi454 : (0 < y452.length) = True := eq_true (by omega)
                    (try rw [show ((0 : Int)).toNat = 0 from rfl] at hx454_0)
                    (try rw [show 0 * 3 = 0 from rfl] at hx454_0)
                    (try rw [Addr.add_zero'] at hx454_0)
                    (try rw [show ((0 : Int)).toNat = 0 from rfl] at hx454_1)
                    (try rw [show 0 * 3 = 0 from rfl] at hx454_1)
                    (try rw [Addr.add_zero'] at hx454_1)
                    (try rw [show ((0 : Int)).toNat = 0 from rfl] at hx454_2)
                    (try rw [show 0 * 3 = 0 from rfl] at hx454_2)
                    (try rw [Addr.add_zero'] at hx454_2)
                    have HR454_1 := Aside0.mk hi454_1
                    have HC454_1 := Aside0.mk hl454_1
                    clear hi454_1 hl454_1
                    replace p454 := eq_true p454
                    replace q454 := eq_true q454
                    have ea_ := Option.some.inj (hx453_1.symm.trans hx454_1)
                    injection ea_ with ea_ en_ ec_
                    subst ea_
                    subst ec_
                    clear en_
                    have p455 : 0 ≤ (1 : Int) := (by omega)
                    have q455 : 1 < (y452.length : Int) := (by have h_ : (1 : Int) < ((t445.length : Int) : Int) := of_decide_eq_true (by first | (with_reducible assumption) | assumption); first | (have e_ := (Kd.N_reads' HO_11.out).1; omega) | simpa only [Ny451.out, Ny452.out, List.length_set] using h_)
                    have ql455 : ((1 : Int) < ((t445.length : Int) : Int)) = True := eq_true (of_decide_eq_true (by first | (with_reducible assumption) | assumption))
                    (try have qn455 : (1 < t445.length) = True := eq_true (by have h_ : (1 : Int) < ((t445.length : Int) : Int) := of_decide_eq_true (by first | (with_reducible assumption) | assumption); omega))
                    obtain ⟨ad455, A455_1, c455_1, e455, hx455_0, hx455_1, hx455_2, hl455_1, hi455_1⟩ := at_T36 (Kd.N_reads' HO_11.out).2.2 1 p455 q455
                    obtain rfl : (⟨go32, 0, none⟩ : Addr) = ad455 := (by injection e455)
                    obtain ⟨ce455, hce455, hMe455, hcc455⟩ := Kd.N_get HO_11.out z36 1 p455 (by first | exact q455 | exact of_decide_eq_true (by first | (with_reducible assumption) | assumption) | (have e_ := (Kd.N_reads' HO_11.out).1; omega))
                    obtain ⟨ua455_1, uc455_1, rfl, ul455_1, ge455_1⟩ := k36_openF hMe455
                    have hv455_1 := hcc455 1 _ rfl
                    rw [add_field _ _ 1 (by omega)] at hv455_1
                    replace hv455_1 := Option.some.inj (hv455_1.symm.trans hx455_1)
                    injection hv455_1 with hva_ hvn_ hvc_
                    rw [hva_] at ge455_1
                    rw [hvc_] at ul455_1
                    have HL455_1 := Aside0.mk (show Kd.V (Kd.int .u32) 89 _ w.heap.size _ _ ((rd_T36 y452 1).f1) from Kd.V_mk ul455_1 ge455_1)
                    clear hva_ hvn_ hvc_ ge455_1 ul455_1
                    clear hcc455 hce455
                    (first | simp only [add_plain] at hx455_0 | simp only [add_at] at hx455_0 | simp only [Addr.add, Nat.zero_add] at hx455_0 | skip)
                    (first | simp only [add_plain] at hx455_1 | simp only [add_at] at hx455_1 | simp only [Addr.add, Nat.zero_add] at hx455_1 | skip)
                    (first | simp only [add_plain] at hx455_2 | simp only [add_at] at hx455_2 | simp only [Addr.add, Nat.zero_add] at hx455_2 | skip)
                    have qi455 : (1 < y452.length) = True := eq_true (by omega)
                    (try rw [show ((1 : Int)).toNat = 1 from rfl] at hx455_0)
                    (try rw [show 1 * 3 = 3 from rfl] at hx455_0)
                    (try rw [show ((1 : Int)).toNat = 1 from rfl] at hx455_1)
                    (try rw [show 1 * 3 = 3 from rfl] at hx455_1)
                    (try rw [show ((1 : Int)).toNat = 1 from rfl] at hx455_2)
                    (try rw [show 1 * 3 = 3 from rfl] at hx455_2)
                    have HR455_1 := Aside0.mk hi455_1
                    have HC455_1 := Aside0.mk hl455_1
                    clear hi455_1 hl455_1
                    replace p455 := eq_true p455
                    replace q455 := eq_true q455
                    refine start_ (n := 19) (S := fun w' => w'.cell? ⟨go32, 0, none⟩ = some (.bool ((rd_T36 y452 0).f0)) ∧ w'.cell? ⟨go32, 1, none⟩ = some (.slice A453_1 ((rd_T36 y452 0).f1).length c453_1) ∧ w'.cell? ⟨go32, 2, none⟩ = some (.int .i64 ((rd_T36 y452 0).f2)) ∧ w'.cell? ⟨go32, 0, none⟩ = some (.bool ((rd_T36 y452 0).f0)) ∧ w'.cell? ⟨go32, 1, none⟩ = some (.slice A453_1 ((rd_T36 y452 0).f1).length c453_1) ∧ w'.cell? ⟨go32, 2, none⟩ = some (.int .i64 ((rd_T36 y452 0).f2)) ∧ w'.cell? ⟨go32, 3, none⟩ = some (.bool ((rd_T36 y452 1).f0)) ∧ w'.cell? ⟨go32, 4, none⟩ = some (.slice A455_1 ((rd_T36 y452 1).f1).length c455_1) ∧ w'.cell? ⟨go32, 5, none⟩ = some (.int .i64 ((rd_T36 y452 1).f2))) (ds := []) #[false, false, false, false, false, false, false, false, false, false, false, false, false, false, false, false, false, false, false] (by kernel_rfl) rfl rfl ⟨hx453_0, hx453_1, hx453_2, hx454_0, hx454_1, hx454_2, hx455_0, hx455_1, hx455_2⟩ (fun hHeld => ?_); refine with_tabW slipsticklaw05_IeeeNear.tab10 slipsticklaw05_IeeeNear.bits10 (fun HT_ HW_ => ?_)
                    generalize w41.drew = w42 at HO_11 BK441 HB HL453_1 HL454_1 HL455_1 HR453_1 HR454_1 HR455_1 hx453_0 hx453_1 hx453_2 hx454_0 hx454_1 hx454_2 hx455_0 hx455_1 hx455_2 hHeld ⊢
                    refine pure_ (i := 0) (N := some 63) (v := ?_) (a' := ?_) #[true, false, false, false, false, false, false, false, false, false, false, false, false, false, false, false, false, false, false] rfl rfl (any_of HT_.out (by kernel_rfl)) (fun _ _ _ h => h) (Or.inl ⟨by rfl, ?_⟩) ?_ ?_
                    rotate_left
                    · intro w'
                      go_simp
                      with_reducible rfl
                    rotate_left
                    · simp only [Act.put, List.setIfInBounds_toArray, List.set_cons_zero, List.set_cons_succ, i64_w, i32_w]
                      rfl
                    refine pure_ (i := 1) (N := some 64) (v := ?_) (a' := ?_) #[true, true, false, false, false, false, false, false, false, false, false, false, false, false, false, false, false, false, false] rfl rfl (any_of HT_.out (by kernel_rfl)) (fun _ _ _ h => h) (Or.inl ⟨by rfl, ?_⟩) ?_ ?_
                    rotate_left
                    · intro w'
                      go_simp
                      with_reducible rfl
                    rotate_left
                    · simp only [Act.put, List.setIfInBounds_toArray, List.set_cons_zero, List.set_cons_succ, i64_w, i32_w]
                      rfl
                    refine pure_ (i := 2) (N := some 65) (v := ?_) (a' := ?_) #[true, true, true, false, false, false, false, false, false, false, false, false, false, false, false, false, false, false, false] rfl rfl (any_of HT_.out (by kernel_rfl)) (fun _ _ _ h => h) (Or.inl ⟨by rfl, ?_⟩) ?_ ?_
                    rotate_left
                    · intro w'
                      go_simp
                      with_reducible rfl
                    rotate_left
                    · simp only [Act.put, List.setIfInBounds_toArray, List.set_cons_zero, List.set_cons_succ, i64_w, i32_w]
                      rfl
                    refine pure_ (i := 4) (N := some 67) (v := ?_) (a' := ?_) #[true, true, true, false, true, false, false, false, false, false, false, false, false, false, false, false, false, false, false] rfl rfl (any_of HT_.out (by kernel_rfl)) (fun _ _ _ h => h) (Or.inl ⟨by rfl, ?_⟩) ?_ ?_
                    rotate_left
                    · intro w'
                      go_simp
                      with_reducible rfl
                    rotate_left
                    · simp only [Act.put, List.setIfInBounds_toArray, List.set_cons_zero, List.set_cons_succ, i64_w, i32_w]
                      rfl
                    refine pure_ (i := 5) (N := some 68) (v := ?_) (a' := ?_) #[true, true, true, false, true, true, false, false, false, false, false, false, false, false, false, false, false, false, false] rfl rfl (any_of HT_.out (by kernel_rfl)) (fun _ _ _ h => h) (Or.inl ⟨by rfl, ?_⟩) ?_ ?_
                    rotate_left
                    · intro w'
                      go_simp
                      with_reducible rfl
                    rotate_left
                    · simp only [Act.put, List.setIfInBounds_toArray, List.set_cons_zero, List.set_cons_succ, i64_w, i32_w]
                      rfl
                    refine pure_ (i := 6) (N := some 69) (v := ?_) (a' := ?_) #[true, true, true, false, true, true, true, false, false, false, false, false, false, false, false, false, false, false, false] rfl rfl (any_of HT_.out (by kernel_rfl)) (fun _ _ _ h => h) (Or.inl ⟨by rfl, ?_⟩) ?_ ?_
                    rotate_left
                    · intro w'
                      go_simp
                      with_reducible rfl
                    rotate_left
                    · simp only [Act.put, List.setIfInBounds_toArray, List.set_cons_zero, List.set_cons_succ, i64_w, i32_w]
                      rfl
                    refine pure_ (i := 10) (N := some 73) (v := ?_) (a' := ?_) #[true, true, true, false, true, true, true, false, false, false, true, false, false, false, false, false, false, false, false] rfl rfl (any_of HT_.out (by kernel_rfl)) (fun _ _ _ h => h) (Or.inl ⟨by rfl, ?_⟩) ?_ ?_
                    rotate_left
                    · intro w'
                      go_simp
                      with_reducible rfl
                    rotate_left
                    · simp only [Act.put, List.setIfInBounds_toArray, List.set_cons_zero, List.set_cons_succ, i64_w, i32_w]
                      rfl
                    refine pure_ (i := 11) (N := some 74) (v := ?_) (a' := ?_) #[true, true, true, false, true, true, true, false, false, false, true, true, false, false, false, false, false, false, false] rfl rfl (any_of HT_.out (by kernel_rfl)) (fun _ _ _ h => h) (Or.inl ⟨by rfl, ?_⟩) ?_ ?_
                    rotate_left
                    · intro w'
                      go_simp
                      with_reducible rfl
                    rotate_left
                    · simp only [Act.put, List.setIfInBounds_toArray, List.set_cons_zero, List.set_cons_succ, i64_w, i32_w]
                      rfl
                    refine take_ (i := 3) (N := some 66) (v := ?_) (a' := ?_) #[true, true, true, true, true, true, true, false, false, false, true, true, false, false, false, false, false, false, false] rfl rfl (take_ofW HT_.out HW_.out (by kernel_rfl)) (fun _ _ _ h => h) (Or.inl ⟨by rfl, ?_⟩) hHeld ?_ ?_
                    rotate_left
                    · rintro w' ⟨s0, s1, s2, s3, s4, s5, s6, s7, s8⟩
                      go_simp
                      with_reducible rfl
                    rotate_left
                    · simp only [Act.put, List.setIfInBounds_toArray, List.set_cons_zero, List.set_cons_succ, i64_w, i32_w]
                      rfl
                    refine take_ (i := 7) (N := some 70) (v := ?_) (a' := ?_) #[true, true, true, true, true, true, true, true, false, false, true, true, false, false, false, false, false, false, false] rfl rfl (take_ofW HT_.out HW_.out (by kernel_rfl)) (fun _ _ _ h => h) (Or.inl ⟨by rfl, ?_⟩) hHeld ?_ ?_
                    rotate_left
                    · rintro w' ⟨s0, s1, s2, s3, s4, s5, s6, s7, s8⟩
                      go_simp
                      with_reducible rfl
                    rotate_left
                    · simp only [Act.put, List.setIfInBounds_toArray, List.set_cons_zero, List.set_cons_succ, i64_w, i32_w]
                      rfl
                    refine pure_ (i := 8) (N := some 71) (v := ?_) (a' := ?_) #[true, true, true, true, true, true, true, true, true, false, true, true, false, false, false, false, false, false, false] rfl rfl (any_of HT_.out (by kernel_rfl)) (fun _ _ _ h => h) (Or.inl ⟨by rfl, ?_⟩) ?_ ?_
                    rotate_left
                    · intro w'
                      go_simp
                      with_reducible rfl
                    rotate_left
                    · simp only [Act.put, List.setIfInBounds_toArray, List.set_cons_zero, List.set_cons_succ, i64_w, i32_w]
                      rfl
                    refine pure_ (i := 9) (N := some 72) (v := ?_) (a' := ?_) #[true, true, true, true, true, true, true, true, true, true, true, true, false, false, false, false, false, false, false] rfl rfl (any_of HT_.out (by kernel_rfl)) (fun _ _ _ h => h) (Or.inl ⟨by rfl, ?_⟩) ?_ ?_
                    rotate_left
                    · intro w'
                      go_simp
                      with_reducible rfl
                    rotate_left
                    · simp only [Act.put, List.setIfInBounds_toArray, List.set_cons_zero, List.set_cons_succ, i64_w, i32_w]
                      rfl
                    refine take_ (i := 12) (N := some 75) (v := ?_) (a' := ?_) #[true, true, true, true, true, true, true, true, true, true, true, true, true, false, false, false, false, false, false] rfl rfl (take_ofW HT_.out HW_.out (by kernel_rfl)) (fun _ _ _ h => h) (Or.inl ⟨by rfl, ?_⟩) hHeld ?_ ?_
                    rotate_left
                    · rintro w' ⟨s0, s1, s2, s3, s4, s5, s6, s7, s8⟩
                      go_simp
                      with_reducible rfl
                    rotate_left
                    · simp only [Act.put, List.setIfInBounds_toArray, List.set_cons_zero, List.set_cons_succ, i64_w, i32_w]
                      rfl
                    refine one_ (i := 13) (N := some 76) #[true, true, true, true, true, true, true, true, true, true, true, true, true, true, false, false, false, false, false] rfl rfl (one_of HT_.out (by kernel_rfl)) (by decide) (fun K hK => ?_)
                    refine goes_ Try.func15 (by kernel_rfl) rfl #[.agg #[.bool false, .slice A453_1 ((rd_T36 y452 0).f1).length c453_1, .int .i64 (wrap64 (((rd_T36 y452 0).f2) + 1))], .agg #[.bool ((rd_T36 y452 1).f0), .slice A455_1 ((rd_T36 y452 1).f1).length c455_1, .int .i64 ((rd_T36 y452 1).f2)]] (by rfl) rfl rfl (by (try simp only [List.map_toArray, List.map_cons, List.map_nil]); first | done | rfl | (simp only [List.length_drop, List.length_take]; rfl)) ?_
                    with_reducible refine (dyad_Cmp.calls kj16 false _ _ ((rd_T36 y452 0).f1) (wrap64 (((rd_T36 y452 0).f2) + 1)) ((rd_T36 y452 1).f0) _ _ ((rd_T36 y452 1).f1) ((rd_T36 y452 1).f2) t456 t457 _ ?side1 ?side2 ?side3 ?side4 A35.out).mono ?_
                    (case side1 => repeat (first | exact (by repeat (first | (with_reducible exact HR453_1.out) | (with_reducible refine Kd.C_alloc ?_ _) | (with_reducible refine Kd.C_drewN ?_ _) | (with_reducible refine Kd.C_drew ?_) | exact HR453_1.out)) | (with_reducible refine Kd.C_alloc ?_ _) | (with_reducible refine Kd.C_drewN ?_ _) | (with_reducible refine Kd.C_drew ?_)))
                    (case side2 => exact HC453_1.out)
                    (case side3 => repeat (first | exact (by repeat (first | (with_reducible exact HR455_1.out) | (with_reducible refine Kd.C_alloc ?_ _) | (with_reducible refine Kd.C_drewN ?_ _) | (with_reducible refine Kd.C_drew ?_) | exact HR455_1.out)) | (with_reducible refine Kd.C_alloc ?_ _) | (with_reducible refine Kd.C_drewN ?_ _) | (with_reducible refine Kd.C_drew ?_)))
                    (case side4 => exact HC455_1.out)
                    rintro e w43 ⟨rfl, hb⟩
                    have HS0_ := (hb.cell (World.block_lt_of_cell? _ _ (hHeld.1))).trans (hHeld.1)
                    have HS1_ := (hb.cell (World.block_lt_of_cell? _ _ (hHeld.2.1))).trans (hHeld.2.1)
                    have HS2_ := (hb.cell (World.block_lt_of_cell? _ _ (hHeld.2.2.1))).trans (hHeld.2.2.1)
                    have HS3_ := (hb.cell (World.block_lt_of_cell? _ _ (hHeld.2.2.2.1))).trans (hHeld.2.2.2.1)
                    have HS4_ := (hb.cell (World.block_lt_of_cell? _ _ (hHeld.2.2.2.2.1))).trans (hHeld.2.2.2.2.1)
                    have HS5_ := (hb.cell (World.block_lt_of_cell? _ _ (hHeld.2.2.2.2.2.1))).trans (hHeld.2.2.2.2.2.1)
                    have HS6_ := (hb.cell (World.block_lt_of_cell? _ _ (hHeld.2.2.2.2.2.2.1))).trans (hHeld.2.2.2.2.2.2.1)
                    have HS7_ := (hb.cell (World.block_lt_of_cell? _ _ (hHeld.2.2.2.2.2.2.2.1))).trans (hHeld.2.2.2.2.2.2.2.1)
                    have HS8_ := (hb.cell (World.block_lt_of_cell? _ _ (hHeld.2.2.2.2.2.2.2.2))).trans (hHeld.2.2.2.2.2.2.2.2)
                    refine ⟨_, rfl, ?_⟩
                    have n0_ := Aside0.mk (Kd.N_below (by (with_reducible repeat (first | apply Kd.N_alloc | apply Kd.N_drewN | apply Kd.N_drew)); exact HO_11.out) hb)
                    have n1_ := Aside0.mk (Kd.V_below (by (with_reducible repeat (first | apply Kd.V_alloc | apply Kd.V_drewN | apply Kd.V_drew)); exact HL453_1.out) hb)
                    have n2_ := Aside0.mk (Kd.V_below (by (with_reducible repeat (first | apply Kd.V_alloc | apply Kd.V_drewN | apply Kd.V_drew)); exact HL454_1.out) hb)
                    have n3_ := Aside0.mk (Kd.V_below (by (with_reducible repeat (first | apply Kd.V_alloc | apply Kd.V_drewN | apply Kd.V_drew)); exact HL455_1.out) hb)
                    have n4_ := Aside0.mk (blk_below (g := gb441) (o := .cells #[.int .i64 t437, .int .i64 t438, .int .i64 t439] 25 (0, 0)) (by (with_reducible repeat (first | refine blk_drewN ?_ _ | refine blk_drew ?_ | refine blk_alloc ?_ _)); exact BK441.out) hb)
                    have n5_ := Aside0.mk (Kd.C_below (by repeat (first | (with_reducible exact HR453_1.out) | (with_reducible refine Kd.C_alloc ?_ _) | (with_reducible refine Kd.C_drewN ?_ _) | (with_reducible refine Kd.C_drew ?_) | exact HR453_1.out)) hb)
                    have n6_ := Aside0.mk (Kd.C_below (by repeat (first | (with_reducible exact HR454_1.out) | (with_reducible refine Kd.C_alloc ?_ _) | (with_reducible refine Kd.C_drewN ?_ _) | (with_reducible refine Kd.C_drew ?_) | exact HR454_1.out)) hb)
                    have n7_ := Aside0.mk (Kd.C_below (by repeat (first | (with_reducible exact HR455_1.out) | (with_reducible refine Kd.C_alloc ?_ _) | (with_reducible refine Kd.C_drewN ?_ _) | (with_reducible refine Kd.C_drew ?_) | exact HR455_1.out)) hb)
                    have n8_ := Aside0.mk (below_step (by repeat (first | (with_reducible first | exact HB.out | apply below_alloc | apply pw_below_drewN | apply below_drew1 | refine below_set ?_ GE441.out) | exact HB.out)) hb)
                    clear HO_11
                    clear HL453_1
                    clear HL454_1
                    clear HL455_1
                    clear BK441
                    clear HR453_1
                    clear HR454_1
                    clear HR455_1
                    clear HB
                    have HO_11 := n0_
                    have HL453_1 := n1_
                    have HL454_1 := n2_
                    have HL455_1 := n3_
                    have BK441 := n4_
                    have HR453_1 := n5_
                    have HR454_1 := n6_
                    have HR455_1 := n7_
                    have HB := n8_
                    clear n0_ n1_ n2_ n3_ n4_ n5_ n6_ n7_ n8_
                    (try clear hb)
                    (try clear hb2)
                    (try clear hk)
                    (try clear hi)
                    refine hK.out _ _ ⟨HS0_, HS1_, HS2_, HS3_, HS4_, HS5_, HS6_, HS7_, HS8_⟩ (fun hHeld => ?_)
                    clear hK K
                    refine norm_ (a' := ?_) ?_ ?_
                    rotate_left
                    · show Act.put _ (some 76) _ = _
                      simp only [Act.put, List.setIfInBounds_toArray, List.set_cons_zero, List.set_cons_succ, i64_w, i32_w]
                      rfl
                    refine pure_ (i := 14) (N := some 62) (v := ?_) (a' := ?_) #[true, true, true, true, true, true, true, true, true, true, true, true, true, true, true, false, false, false, false] rfl rfl (any_of HT_.out (by kernel_rfl)) (fun _ _ _ h => h) (Or.inl ⟨by rfl, ?_⟩) ?_ ?_
                    rotate_left
                    · intro w'
                      go_simp
                      with_reducible rfl
                    rotate_left
                    · simp only [Act.put, List.setIfInBounds_toArray, List.set_cons_zero, List.set_cons_succ, i64_w, i32_w]
                      rfl
                    refine pure_ (i := 15) (N := some 77) (v := ?_) (a' := ?_) #[true, true, true, true, true, true, true, true, true, true, true, true, true, true, true, true, false, false, false] rfl rfl (any_of HT_.out (by kernel_rfl)) (fun _ _ _ h => h) (Or.inl ⟨by rfl, ?_⟩) ?_ ?_
                    rotate_left
                    · intro w'
                      go_simp
                      with_reducible rfl
                    rotate_left
                    · simp only [Act.put, List.setIfInBounds_toArray, List.set_cons_zero, List.set_cons_succ, i64_w, i32_w]
                      rfl
                    refine pure_ (i := 16) (N := some 78) (v := ?_) (a' := ?_) #[true, true, true, true, true, true, true, true, true, true, true, true, true, true, true, true, true, false, false] rfl rfl (any_of HT_.out (by kernel_rfl)) (fun _ _ _ h => h) (Or.inl ⟨by rfl, ?_⟩) ?_ ?_
                    rotate_left
                    · intro w'
                      go_simp
                      with_reducible rfl
                    rotate_left
                    · simp only [Act.put, List.setIfInBounds_toArray, List.set_cons_zero, List.set_cons_succ, i64_w, i32_w]
                      rfl
                    refine pure_ (i := 17) (N := some 13) (v := ?_) (a' := ?_) #[true, true, true, true, true, true, true, true, true, true, true, true, true, true, true, true, true, true, false] rfl rfl (any_of HT_.out (by kernel_rfl)) (fun _ _ _ h => h) (Or.inl ⟨by rfl, ?_⟩) ?_ ?_
                    rotate_left
                    · intro w'
                      go_simp
                      with_reducible rfl
                    rotate_left
                    · simp only [Act.put, List.setIfInBounds_toArray, List.set_cons_zero, List.set_cons_succ, i64_w, i32_w]
                      rfl
                    refine pure_ (i := 18) (N := some 14) (v := ?_) (a' := ?_) #[true, true, true, true, true, true, true, true, true, true, true, true, true, true, true, true, true, true, true] rfl rfl (any_of HT_.out (by kernel_rfl)) (fun _ _ _ h => h) (Or.inl ⟨by rfl, ?_⟩) ?_ ?_
                    rotate_left
                    · intro w'
                      go_simp
                      with_reducible rfl
                    rotate_left
                    · simp only [Act.put, List.setIfInBounds_toArray, List.set_cons_zero, List.set_cons_succ, i64_w, i32_w]
                      rfl
                    refine done_ (done_of HT_.out (by kernel_rfl)) ?_
                    try go_wp2
                    have n0_ := Aside0.mk (Kd.N_drew HO_11.out)
                    have n1_ := Aside0.mk (Kd.V_drew HL453_1.out)
                    have n2_ := Aside0.mk (Kd.V_drew HL454_1.out)
                    have n3_ := Aside0.mk (Kd.V_drew HL455_1.out)
                    have n4_ := Aside0.mk (blk_drew BK441.out)
                    have n5_ := Aside0.mk (Kd.C_drew HR453_1.out)
                    have n6_ := Aside0.mk (Kd.C_drew HR454_1.out)
                    have n7_ := Aside0.mk (Kd.C_drew HR455_1.out)
                    have n8_ := Aside0.mk (below_drew1 HB.out)
                    clear HO_11
                    clear HL453_1
                    clear HL454_1
                    clear HL455_1
                    clear BK441
                    clear HR453_1
                    clear HR454_1
                    clear HR455_1
                    clear HB
                    have HO_11 := n0_
                    have HL453_1 := n1_
                    have HL454_1 := n2_
                    have HL455_1 := n3_
                    have BK441 := n4_
                    have HR453_1 := n5_
                    have HR454_1 := n6_
                    have HR455_1 := n7_
                    have HB := n8_
                    clear n0_ n1_ n2_ n3_ n4_ n5_ n6_ n7_ n8_
                    have p458 : 0 ≤ (0 : Int) := (by omega)
                    have q458 : 0 < (y452.length : Int) := (by have h_ : (0 : Int) < ((t445.length : Int) : Int) := of_decide_eq_true (by first | (with_reducible assumption) | assumption); first | (have e_ := (Kd.N_reads' HO_11.out).1; omega) | simpa only [Ny451.out, Ny452.out, List.length_set] using h_)
                    have ql458 : ((0 : Int) < ((t445.length : Int) : Int)) = True := eq_true (of_decide_eq_true (by first | (with_reducible assumption) | assumption))
                    (try have qn458 : (0 < t445.length) = True := eq_true (by have h_ : (0 : Int) < ((t445.length : Int) : Int) := of_decide_eq_true (by first | (with_reducible assumption) | assumption); omega))
                    obtain ⟨ad458, A458_1, c458_1, e458, hx458_0, hx458_1, hx458_2, hl458_1, hi458_1⟩ := at_T36 (Kd.N_reads' HO_11.out).2.2 0 p458 q458
                    obtain rfl : (⟨go32, 0, none⟩ : Addr) = ad458 := (by injection e458)
                    obtain ⟨ce458, hce458, hMe458, hcc458⟩ := Kd.N_get HO_11.out z36 0 p458 (by first | exact q458 | exact of_decide_eq_true (by first | (with_reducible assumption) | assumption) | (have e_ := (Kd.N_reads' HO_11.out).1; omega))
                    obtain ⟨ua458_1, uc458_1, rfl, ul458_1, ge458_1⟩ := k36_openF hMe458
                    have hv458_1 := hcc458 1 _ rfl
                    rw [add_field _ _ 1 (by omega)] at hv458_1
                    replace hv458_1 := Option.some.inj (hv458_1.symm.trans hx458_1)
                    injection hv458_1 with hva_ hvn_ hvc_
                    rw [hva_] at ge458_1
                    rw [hvc_] at ul458_1
                    have HL458_1 := Aside0.mk (show Kd.V (Kd.int .u32) 89 _ w.heap.size _ _ ((rd_T36 y452 0).f1) from Kd.V_mk ul458_1 ge458_1)
                    clear hva_ hvn_ hvc_ ge458_1 ul458_1
                    clear hcc458 hce458
                    (first | simp only [add_plain] at hx458_0 | simp only [add_at] at hx458_0 | simp only [Addr.add, Nat.zero_add] at hx458_0 | skip)
                    (first | simp only [add_plain] at hx458_1 | simp only [add_at] at hx458_1 | simp only [Addr.add, Nat.zero_add] at hx458_1 | skip)
                    (first | simp only [add_plain] at hx458_2 | simp only [add_at] at hx458_2 | simp only [Addr.add, Nat.zero_add] at hx458_2 | skip)
                    have qi458 : (0 < y452.length) = True := eq_true (by omega)
                    (try rw [show ((0 : Int)).toNat = 0 from rfl] at hx458_0)
                    (try rw [show 0 * 3 = 0 from rfl] at hx458_0)
                    (try rw [Addr.add_zero'] at hx458_0)
                    (try rw [show ((0 : Int)).toNat = 0 from rfl] at hx458_1)
                    (try rw [show 0 * 3 = 0 from rfl] at hx458_1)
                    (try rw [Addr.add_zero'] at hx458_1)
                    (try rw [show ((0 : Int)).toNat = 0 from rfl] at hx458_2)
                    (try rw [show 0 * 3 = 0 from rfl] at hx458_2)
                    (try rw [Addr.add_zero'] at hx458_2)
                    have HR458_1 := Aside0.mk hi458_1
                    have HC458_1 := Aside0.mk hl458_1
                    clear hi458_1 hl458_1
                    replace p458 := eq_true p458
                    replace q458 := eq_true q458
                    have p459 : 0 ≤ (1 : Int) := (by omega)
                    have q459 : 1 < (y452.length : Int) := (by have h_ : (1 : Int) < ((t445.length : Int) : Int) := of_decide_eq_true (by first | (with_reducible assumption) | assumption); first | (have e_ := (Kd.N_reads' HO_11.out).1; omega) | simpa only [Ny451.out, Ny452.out, List.length_set] using h_)
                    have ql459 : ((1 : Int) < ((t445.length : Int) : Int)) = True := eq_true (of_decide_eq_true (by first | (with_reducible assumption) | assumption))
                    (try have qn459 : (1 < t445.length) = True := eq_true (by have h_ : (1 : Int) < ((t445.length : Int) : Int) := of_decide_eq_true (by first | (with_reducible assumption) | assumption); omega))
                    obtain ⟨ad459, A459_1, c459_1, e459, hx459_0, hx459_1, hx459_2, hl459_1, hi459_1⟩ := at_T36 (Kd.N_reads' HO_11.out).2.2 1 p459 q459
                    obtain rfl : (⟨go32, 0, none⟩ : Addr) = ad459 := (by injection e459)
                    obtain ⟨ce459, hce459, hMe459, hcc459⟩ := Kd.N_get HO_11.out z36 1 p459 (by first | exact q459 | exact of_decide_eq_true (by first | (with_reducible assumption) | assumption) | (have e_ := (Kd.N_reads' HO_11.out).1; omega))
                    obtain ⟨ua459_1, uc459_1, rfl, ul459_1, ge459_1⟩ := k36_openF hMe459
                    have hv459_1 := hcc459 1 _ rfl
                    rw [add_field _ _ 1 (by omega)] at hv459_1
                    replace hv459_1 := Option.some.inj (hv459_1.symm.trans hx459_1)
                    injection hv459_1 with hva_ hvn_ hvc_
                    rw [hva_] at ge459_1
                    rw [hvc_] at ul459_1
                    have HL459_1 := Aside0.mk (show Kd.V (Kd.int .u32) 89 _ w.heap.size _ _ ((rd_T36 y452 1).f1) from Kd.V_mk ul459_1 ge459_1)
                    clear hva_ hvn_ hvc_ ge459_1 ul459_1
                    clear hcc459 hce459
                    (first | simp only [add_plain] at hx459_0 | simp only [add_at] at hx459_0 | simp only [Addr.add, Nat.zero_add] at hx459_0 | skip)
                    (first | simp only [add_plain] at hx459_1 | simp only [add_at] at hx459_1 | simp only [Addr.add, Nat.zero_add] at hx459_1 | skip)
                    (first | simp only [add_plain] at hx459_2 | simp only [add_at] at hx459_2 | simp only [Addr.add, Nat.zero_add] at hx459_2 | skip)
                    have qi459 : (1 < y452.length) = True := eq_true (by omega)
                    (try rw [show ((1 : Int)).toNat = 1 from rfl] at hx459_0)
                    (try rw [show 1 * 3 = 3 from rfl] at hx459_0)
                    (try rw [show ((1 : Int)).toNat = 1 from rfl] at hx459_1)
                    (try rw [show 1 * 3 = 3 from rfl] at hx459_1)
                    (try rw [show ((1 : Int)).toNat = 1 from rfl] at hx459_2)
                    (try rw [show 1 * 3 = 3 from rfl] at hx459_2)
                    have HR459_1 := Aside0.mk hi459_1
                    have HC459_1 := Aside0.mk hl459_1
                    clear hi459_1 hl459_1
                    replace p459 := eq_true p459
                    replace q459 := eq_true q459
                    have p460 : 0 ≤ (1 : Int) := (by omega)
                    have q460 : 1 < (y452.length : Int) := (by have h_ : (1 : Int) < ((t445.length : Int) : Int) := of_decide_eq_true (by first | (with_reducible assumption) | assumption); first | (have e_ := (Kd.N_reads' HO_11.out).1; omega) | simpa only [Ny451.out, Ny452.out, List.length_set] using h_)
                    have ql460 : ((1 : Int) < ((t445.length : Int) : Int)) = True := eq_true (of_decide_eq_true (by first | (with_reducible assumption) | assumption))
                    (try have qn460 : (1 < t445.length) = True := eq_true (by have h_ : (1 : Int) < ((t445.length : Int) : Int) := of_decide_eq_true (by first | (with_reducible assumption) | assumption); omega))
                    obtain ⟨ad460, A460_1, c460_1, e460, hx460_0, hx460_1, hx460_2, hl460_1, hi460_1⟩ := at_T36 (Kd.N_reads' HO_11.out).2.2 1 p460 q460
                    obtain rfl : (⟨go32, 0, none⟩ : Addr) = ad460 := (by injection e460)
                    obtain ⟨ce460, hce460, hMe460, hcc460⟩ := Kd.N_get HO_11.out z36 1 p460 (by first | exact q460 | exact of_decide_eq_true (by first | (with_reducible assumption) | assumption) | (have e_ := (Kd.N_reads' HO_11.out).1; omega))
                    obtain ⟨ua460_1, uc460_1, rfl, ul460_1, ge460_1⟩ := k36_openF hMe460
                    have hv460_1 := hcc460 1 _ rfl
                    rw [add_field _ _ 1 (by omega)] at hv460_1
                    replace hv460_1 := Option.some.inj (hv460_1.symm.trans hx460_1)
                    injection hv460_1 with hva_ hvn_ hvc_
                    rw [hva_] at ge460_1
                    rw [hvc_] at ul460_1
                    have HL460_1 := Aside0.mk (show Kd.V (Kd.int .u32) 89 _ w.heap.size _ _ ((rd_T36 y452 1).f1) from Kd.V_mk ul460_1 ge460_1)
                    clear hva_ hvn_ hvc_ ge460_1 ul460_1
                    clear hcc460 hce460
                    (first | simp only [add_plain] at hx460_0 | simp only [add_at] at hx460_0 | simp only [Addr.add, Nat.zero_add] at hx460_0 | skip)
                    (first | simp only [add_plain] at hx460_1 | simp only [add_at] at hx460_1 | simp only [Addr.add, Nat.zero_add] at hx460_1 | skip)
                    (first | simp only [add_plain] at hx460_2 | simp only [add_at] at hx460_2 | simp only [Addr.add, Nat.zero_add] at hx460_2 | skip)
                    have qi460 : (1 < y452.length) = True := eq_true (by omega)
                    (try rw [show ((1 : Int)).toNat = 1 from rfl] at hx460_0)
                    (try rw [show 1 * 3 = 3 from rfl] at hx460_0)
                    (try rw [show ((1 : Int)).toNat = 1 from rfl] at hx460_1)
                    (try rw [show 1 * 3 = 3 from rfl] at hx460_1)
                    (try rw [show ((1 : Int)).toNat = 1 from rfl] at hx460_2)
                    (try rw [show 1 * 3 = 3 from rfl] at hx460_2)
                    have HR460_1 := Aside0.mk hi460_1
                    have HC460_1 := Aside0.mk hl460_1
                    clear hi460_1 hl460_1
                    replace p460 := eq_true p460
                    replace q460 := eq_true q460
                    have ea_ := Option.some.inj (hx459_1.symm.trans hx460_1)
                    injection ea_ with ea_ en_ ec_
                    subst ea_
                    subst ec_
                    clear en_
                    refine start_ (n := 19) (S := fun w' => w'.cell? ⟨go32, 0, none⟩ = some (.bool ((rd_T36 y452 0).f0)) ∧ w'.cell? ⟨go32, 1, none⟩ = some (.slice A458_1 ((rd_T36 y452 0).f1).length c458_1) ∧ w'.cell? ⟨go32, 2, none⟩ = some (.int .i64 ((rd_T36 y452 0).f2)) ∧ w'.cell? ⟨go32, 3, none⟩ = some (.bool ((rd_T36 y452 1).f0)) ∧ w'.cell? ⟨go32, 4, none⟩ = some (.slice A459_1 ((rd_T36 y452 1).f1).length c459_1) ∧ w'.cell? ⟨go32, 5, none⟩ = some (.int .i64 ((rd_T36 y452 1).f2)) ∧ w'.cell? ⟨go32, 3, none⟩ = some (.bool ((rd_T36 y452 1).f0)) ∧ w'.cell? ⟨go32, 4, none⟩ = some (.slice A459_1 ((rd_T36 y452 1).f1).length c459_1) ∧ w'.cell? ⟨go32, 5, none⟩ = some (.int .i64 ((rd_T36 y452 1).f2))) (ds := []) #[false, false, false, false, false, false, false, false, false, false, false, false, false, false, false, false, false, false, false] (by kernel_rfl) rfl rfl ⟨hx458_0, hx458_1, hx458_2, hx459_0, hx459_1, hx459_2, hx460_0, hx460_1, hx460_2⟩ (fun hHeld => ?_); refine with_tabW slipsticklaw05_IeeeNear.tab11 slipsticklaw05_IeeeNear.bits11 (fun HT_ HW_ => ?_)
                    generalize w43.drew = w44 at HO_11 HL453_1 HL454_1 HL455_1 BK441 HR453_1 HR454_1 HR455_1 HB HL458_1 HL459_1 HL460_1 HR458_1 HR459_1 HR460_1 hx458_0 hx458_1 hx458_2 hx459_0 hx459_1 hx459_2 hx460_0 hx460_1 hx460_2 hHeld ⊢
                    refine pure_ (i := 0) (N := some 80) (v := ?_) (a' := ?_) #[true, false, false, false, false, false, false, false, false, false, false, false, false, false, false, false, false, false, false] rfl rfl (any_of HT_.out (by kernel_rfl)) (fun _ _ _ h => h) (Or.inl ⟨by rfl, ?_⟩) ?_ ?_
                    rotate_left
                    · intro w'
                      go_simp
                      with_reducible rfl
                    rotate_left
                    · simp only [Act.put, List.setIfInBounds_toArray, List.set_cons_zero, List.set_cons_succ, i64_w, i32_w]
                      rfl
                    refine pure_ (i := 1) (N := some 81) (v := ?_) (a' := ?_) #[true, true, false, false, false, false, false, false, false, false, false, false, false, false, false, false, false, false, false] rfl rfl (any_of HT_.out (by kernel_rfl)) (fun _ _ _ h => h) (Or.inl ⟨by rfl, ?_⟩) ?_ ?_
                    rotate_left
                    · intro w'
                      go_simp
                      with_reducible rfl
                    rotate_left
                    · simp only [Act.put, List.setIfInBounds_toArray, List.set_cons_zero, List.set_cons_succ, i64_w, i32_w]
                      rfl
                    refine pure_ (i := 3) (N := some 83) (v := ?_) (a' := ?_) #[true, true, false, true, false, false, false, false, false, false, false, false, false, false, false, false, false, false, false] rfl rfl (any_of HT_.out (by kernel_rfl)) (fun _ _ _ h => h) (Or.inl ⟨by rfl, ?_⟩) ?_ ?_
                    rotate_left
                    · intro w'
                      go_simp
                      with_reducible rfl
                    rotate_left
                    · simp only [Act.put, List.setIfInBounds_toArray, List.set_cons_zero, List.set_cons_succ, i64_w, i32_w]
                      rfl
                    refine pure_ (i := 4) (N := some 84) (v := ?_) (a' := ?_) #[true, true, false, true, true, false, false, false, false, false, false, false, false, false, false, false, false, false, false] rfl rfl (any_of HT_.out (by kernel_rfl)) (fun _ _ _ h => h) (Or.inl ⟨by rfl, ?_⟩) ?_ ?_
                    rotate_left
                    · intro w'
                      go_simp
                      with_reducible rfl
                    rotate_left
                    · simp only [Act.put, List.setIfInBounds_toArray, List.set_cons_zero, List.set_cons_succ, i64_w, i32_w]
                      rfl
                    refine pure_ (i := 5) (N := some 85) (v := ?_) (a' := ?_) #[true, true, false, true, true, true, false, false, false, false, false, false, false, false, false, false, false, false, false] rfl rfl (any_of HT_.out (by kernel_rfl)) (fun _ _ _ h => h) (Or.inl ⟨by rfl, ?_⟩) ?_ ?_
                    rotate_left
                    · intro w'
                      go_simp
                      with_reducible rfl
                    rotate_left
                    · simp only [Act.put, List.setIfInBounds_toArray, List.set_cons_zero, List.set_cons_succ, i64_w, i32_w]
                      rfl
                    refine pure_ (i := 7) (N := some 87) (v := ?_) (a' := ?_) #[true, true, false, true, true, true, false, true, false, false, false, false, false, false, false, false, false, false, false] rfl rfl (any_of HT_.out (by kernel_rfl)) (fun _ _ _ h => h) (Or.inl ⟨by rfl, ?_⟩) ?_ ?_
                    rotate_left
                    · intro w'
                      go_simp
                      with_reducible rfl
                    rotate_left
                    · simp only [Act.put, List.setIfInBounds_toArray, List.set_cons_zero, List.set_cons_succ, i64_w, i32_w]
                      rfl
                    refine pure_ (i := 8) (N := some 88) (v := ?_) (a' := ?_) #[true, true, false, true, true, true, false, true, true, false, false, false, false, false, false, false, false, false, false] rfl rfl (any_of HT_.out (by kernel_rfl)) (fun _ _ _ h => h) (Or.inl ⟨by rfl, ?_⟩) ?_ ?_
                    rotate_left
                    · intro w'
                      go_simp
                      with_reducible rfl
                    rotate_left
                    · simp only [Act.put, List.setIfInBounds_toArray, List.set_cons_zero, List.set_cons_succ, i64_w, i32_w]
                      rfl
                    refine pure_ (i := 9) (N := some 89) (v := ?_) (a' := ?_) #[true, true, false, true, true, true, false, true, true, true, false, false, false, false, false, false, false, false, false] rfl rfl (any_of HT_.out (by kernel_rfl)) (fun _ _ _ h => h) (Or.inl ⟨by rfl, ?_⟩) ?_ ?_
                    rotate_left
                    · intro w'
                      go_simp
                      with_reducible rfl
                    rotate_left
                    · simp only [Act.put, List.setIfInBounds_toArray, List.set_cons_zero, List.set_cons_succ, i64_w, i32_w]
                      rfl
                    refine take_ (i := 2) (N := some 82) (v := ?_) (a' := ?_) #[true, true, true, true, true, true, false, true, true, true, false, false, false, false, false, false, false, false, false] rfl rfl (take_ofW HT_.out HW_.out (by kernel_rfl)) (fun _ _ _ h => h) (Or.inl ⟨by rfl, ?_⟩) hHeld ?_ ?_
                    rotate_left
                    · rintro w' ⟨s0, s1, s2, s3, s4, s5, s6, s7, s8⟩
                      go_simp
                      with_reducible rfl
                    rotate_left
                    · simp only [Act.put, List.setIfInBounds_toArray, List.set_cons_zero, List.set_cons_succ, i64_w, i32_w]
                      rfl
                    refine take_ (i := 6) (N := some 86) (v := ?_) (a' := ?_) #[true, true, true, true, true, true, true, true, true, true, false, false, false, false, false, false, false, false, false] rfl rfl (take_ofW HT_.out HW_.out (by kernel_rfl)) (fun _ _ _ h => h) (Or.inl ⟨by rfl, ?_⟩) hHeld ?_ ?_
                    rotate_left
                    · rintro w' ⟨s0, s1, s2, s3, s4, s5, s6, s7, s8⟩
                      go_simp
                      with_reducible rfl
                    rotate_left
                    · simp only [Act.put, List.setIfInBounds_toArray, List.set_cons_zero, List.set_cons_succ, i64_w, i32_w]
                      rfl
                    refine take_ (i := 10) (N := some 90) (v := ?_) (a' := ?_) #[true, true, true, true, true, true, true, true, true, true, true, false, false, false, false, false, false, false, false] rfl rfl (take_ofW HT_.out HW_.out (by kernel_rfl)) (fun _ _ _ h => h) (Or.inl ⟨by rfl, ?_⟩) hHeld ?_ ?_
                    rotate_left
                    · rintro w' ⟨s0, s1, s2, s3, s4, s5, s6, s7, s8⟩
                      go_simp
                      with_reducible rfl
                    rotate_left
                    · simp only [Act.put, List.setIfInBounds_toArray, List.set_cons_zero, List.set_cons_succ, i64_w, i32_w]
                      rfl
                    refine pure_ (i := 11) (N := some 91) (v := ?_) (a' := ?_) #[true, true, true, true, true, true, true, true, true, true, true, true, false, false, false, false, false, false, false] rfl rfl (any_of HT_.out (by kernel_rfl)) (fun _ _ _ h => h) (Or.inl ⟨by rfl, ?_⟩) ?_ ?_
                    rotate_left
                    · intro w'
                      go_simp
                      with_reducible rfl
                    rotate_left
                    · simp only [Act.put, List.setIfInBounds_toArray, List.set_cons_zero, List.set_cons_succ, i64_w, i32_w]
                      rfl
                    refine pure_ (i := 12) (N := some 92) (v := ?_) (a' := ?_) #[true, true, true, true, true, true, true, true, true, true, true, true, true, false, false, false, false, false, false] rfl rfl (any_of HT_.out (by kernel_rfl)) (fun _ _ _ h => h) (Or.inl ⟨by rfl, ?_⟩) ?_ ?_
                    rotate_left
                    · intro w'
                      go_simp
                      with_reducible rfl
                    rotate_left
                    · simp only [Act.put, List.setIfInBounds_toArray, List.set_cons_zero, List.set_cons_succ, i64_w, i32_w]
                      rfl
                    refine one_ (i := 13) (N := some 93) #[true, true, true, true, true, true, true, true, true, true, true, true, true, true, false, false, false, false, false] rfl rfl (one_of HT_.out (by kernel_rfl)) (by decide) (fun K hK => ?_)
                    refine goes_ Try.func15 (by kernel_rfl) rfl #[.agg #[.bool ((rd_T36 y452 0).f0), .slice A458_1 ((rd_T36 y452 0).f1).length c458_1, .int .i64 ((rd_T36 y452 0).f2)], .agg #[.bool false, .slice A459_1 ((rd_T36 y452 1).f1).length c459_1, .int .i64 (wrap64 (((rd_T36 y452 1).f2) + 1))]] (by rfl) rfl rfl (by (try simp only [List.map_toArray, List.map_cons, List.map_nil]); first | done | rfl | (simp only [List.length_drop, List.length_take]; rfl)) ?_
                    with_reducible refine (dyad_Cmp.calls kj16 ((rd_T36 y452 0).f0) _ _ ((rd_T36 y452 0).f1) ((rd_T36 y452 0).f2) false _ _ ((rd_T36 y452 1).f1) (wrap64 (((rd_T36 y452 1).f2) + 1)) t461 t462 _ ?side1 ?side2 ?side3 ?side4 A36.out).mono ?_
                    (case side1 => repeat (first | exact (by repeat (first | (with_reducible exact HR458_1.out) | (with_reducible refine Kd.C_alloc ?_ _) | (with_reducible refine Kd.C_drewN ?_ _) | (with_reducible refine Kd.C_drew ?_) | exact HR458_1.out)) | (with_reducible refine Kd.C_alloc ?_ _) | (with_reducible refine Kd.C_drewN ?_ _) | (with_reducible refine Kd.C_drew ?_)))
                    (case side2 => exact HC458_1.out)
                    (case side3 => repeat (first | exact (by repeat (first | (with_reducible exact HR459_1.out) | (with_reducible refine Kd.C_alloc ?_ _) | (with_reducible refine Kd.C_drewN ?_ _) | (with_reducible refine Kd.C_drew ?_) | exact HR459_1.out)) | (with_reducible refine Kd.C_alloc ?_ _) | (with_reducible refine Kd.C_drewN ?_ _) | (with_reducible refine Kd.C_drew ?_)))
                    (case side4 => exact HC459_1.out)
                    rintro e w45 ⟨rfl, hb⟩
                    have HS0_ := (hb.cell (World.block_lt_of_cell? _ _ (hHeld.1))).trans (hHeld.1)
                    have HS1_ := (hb.cell (World.block_lt_of_cell? _ _ (hHeld.2.1))).trans (hHeld.2.1)
                    have HS2_ := (hb.cell (World.block_lt_of_cell? _ _ (hHeld.2.2.1))).trans (hHeld.2.2.1)
                    have HS3_ := (hb.cell (World.block_lt_of_cell? _ _ (hHeld.2.2.2.1))).trans (hHeld.2.2.2.1)
                    have HS4_ := (hb.cell (World.block_lt_of_cell? _ _ (hHeld.2.2.2.2.1))).trans (hHeld.2.2.2.2.1)
                    have HS5_ := (hb.cell (World.block_lt_of_cell? _ _ (hHeld.2.2.2.2.2.1))).trans (hHeld.2.2.2.2.2.1)
                    have HS6_ := (hb.cell (World.block_lt_of_cell? _ _ (hHeld.2.2.2.2.2.2.1))).trans (hHeld.2.2.2.2.2.2.1)
                    have HS7_ := (hb.cell (World.block_lt_of_cell? _ _ (hHeld.2.2.2.2.2.2.2.1))).trans (hHeld.2.2.2.2.2.2.2.1)
                    have HS8_ := (hb.cell (World.block_lt_of_cell? _ _ (hHeld.2.2.2.2.2.2.2.2))).trans (hHeld.2.2.2.2.2.2.2.2)
                    refine ⟨_, rfl, ?_⟩
                    have n0_ := Aside0.mk (Kd.N_below (by (with_reducible repeat (first | apply Kd.N_alloc | apply Kd.N_drewN | apply Kd.N_drew)); exact HO_11.out) hb)
                    have n1_ := Aside0.mk (Kd.V_below (by (with_reducible repeat (first | apply Kd.V_alloc | apply Kd.V_drewN | apply Kd.V_drew)); exact HL453_1.out) hb)
                    have n2_ := Aside0.mk (Kd.V_below (by (with_reducible repeat (first | apply Kd.V_alloc | apply Kd.V_drewN | apply Kd.V_drew)); exact HL454_1.out) hb)
                    have n3_ := Aside0.mk (Kd.V_below (by (with_reducible repeat (first | apply Kd.V_alloc | apply Kd.V_drewN | apply Kd.V_drew)); exact HL455_1.out) hb)
                    have n4_ := Aside0.mk (Kd.V_below (by (with_reducible repeat (first | apply Kd.V_alloc | apply Kd.V_drewN | apply Kd.V_drew)); exact HL458_1.out) hb)
                    have n5_ := Aside0.mk (Kd.V_below (by (with_reducible repeat (first | apply Kd.V_alloc | apply Kd.V_drewN | apply Kd.V_drew)); exact HL459_1.out) hb)
                    have n6_ := Aside0.mk (Kd.V_below (by (with_reducible repeat (first | apply Kd.V_alloc | apply Kd.V_drewN | apply Kd.V_drew)); exact HL460_1.out) hb)
                    have n7_ := Aside0.mk (blk_below (g := gb441) (o := .cells #[.int .i64 t437, .int .i64 t438, .int .i64 t439] 25 (0, 0)) (by (with_reducible repeat (first | refine blk_drewN ?_ _ | refine blk_drew ?_ | refine blk_alloc ?_ _)); exact BK441.out) hb)
                    have n8_ := Aside0.mk (Kd.C_below (by repeat (first | (with_reducible exact HR453_1.out) | (with_reducible refine Kd.C_alloc ?_ _) | (with_reducible refine Kd.C_drewN ?_ _) | (with_reducible refine Kd.C_drew ?_) | exact HR453_1.out)) hb)
                    have n9_ := Aside0.mk (Kd.C_below (by repeat (first | (with_reducible exact HR454_1.out) | (with_reducible refine Kd.C_alloc ?_ _) | (with_reducible refine Kd.C_drewN ?_ _) | (with_reducible refine Kd.C_drew ?_) | exact HR454_1.out)) hb)
                    have n10_ := Aside0.mk (Kd.C_below (by repeat (first | (with_reducible exact HR455_1.out) | (with_reducible refine Kd.C_alloc ?_ _) | (with_reducible refine Kd.C_drewN ?_ _) | (with_reducible refine Kd.C_drew ?_) | exact HR455_1.out)) hb)
                    have n11_ := Aside0.mk (Kd.C_below (by repeat (first | (with_reducible exact HR458_1.out) | (with_reducible refine Kd.C_alloc ?_ _) | (with_reducible refine Kd.C_drewN ?_ _) | (with_reducible refine Kd.C_drew ?_) | exact HR458_1.out)) hb)
                    have n12_ := Aside0.mk (Kd.C_below (by repeat (first | (with_reducible exact HR459_1.out) | (with_reducible refine Kd.C_alloc ?_ _) | (with_reducible refine Kd.C_drewN ?_ _) | (with_reducible refine Kd.C_drew ?_) | exact HR459_1.out)) hb)
                    have n13_ := Aside0.mk (Kd.C_below (by repeat (first | (with_reducible exact HR460_1.out) | (with_reducible refine Kd.C_alloc ?_ _) | (with_reducible refine Kd.C_drewN ?_ _) | (with_reducible refine Kd.C_drew ?_) | exact HR460_1.out)) hb)
                    have n14_ := Aside0.mk (below_step (by repeat (first | (with_reducible first | exact HB.out | apply below_alloc | apply pw_below_drewN | apply below_drew1 | refine below_set ?_ GE441.out) | exact HB.out)) hb)
                    clear HO_11
                    clear HL453_1
                    clear HL454_1
                    clear HL455_1
                    clear HL458_1
                    clear HL459_1
                    clear HL460_1
                    clear BK441
                    clear HR453_1
                    clear HR454_1
                    clear HR455_1
                    clear HR458_1
                    clear HR459_1
                    clear HR460_1
                    clear HB
                    have HO_11 := n0_
                    have HL453_1 := n1_
                    have HL454_1 := n2_
                    have HL455_1 := n3_
                    have HL458_1 := n4_
                    have HL459_1 := n5_
                    have HL460_1 := n6_
                    have BK441 := n7_
                    have HR453_1 := n8_
                    have HR454_1 := n9_
                    have HR455_1 := n10_
                    have HR458_1 := n11_
                    have HR459_1 := n12_
                    have HR460_1 := n13_
                    have HB := n14_
                    clear n0_ n1_ n2_ n3_ n4_ n5_ n6_ n7_ n8_ n9_ n10_ n11_ n12_ n13_ n14_
                    (try clear hb)
                    (try clear hb2)
                    (try clear hk)
                    (try clear hi)
                    refine hK.out _ _ ⟨HS0_, HS1_, HS2_, HS3_, HS4_, HS5_, HS6_, HS7_, HS8_⟩ (fun hHeld => ?_)
                    clear hK K
                    refine norm_ (a' := ?_) ?_ ?_
                    rotate_left
                    · show Act.put _ (some 93) _ = _
                      simp only [Act.put, List.setIfInBounds_toArray, List.set_cons_zero, List.set_cons_succ, i64_w, i32_w]
                      rfl
                    refine pure_ (i := 14) (N := some 79) (v := ?_) (a' := ?_) #[true, true, true, true, true, true, true, true, true, true, true, true, true, true, true, false, false, false, false] rfl rfl (any_of HT_.out (by kernel_rfl)) (fun _ _ _ h => h) (Or.inl ⟨by rfl, ?_⟩) ?_ ?_
                    rotate_left
                    · intro w'
                      go_simp
                      with_reducible rfl
                    rotate_left
                    · simp only [Act.put, List.setIfInBounds_toArray, List.set_cons_zero, List.set_cons_succ, i64_w, i32_w]
                      rfl
                    refine pure_ (i := 15) (N := some 94) (v := ?_) (a' := ?_) #[true, true, true, true, true, true, true, true, true, true, true, true, true, true, true, true, false, false, false] rfl rfl (any_of HT_.out (by kernel_rfl)) (fun _ _ _ h => h) (Or.inl ⟨by rfl, ?_⟩) ?_ ?_
                    rotate_left
                    · intro w'
                      go_simp
                      with_reducible rfl
                    rotate_left
                    · simp only [Act.put, List.setIfInBounds_toArray, List.set_cons_zero, List.set_cons_succ, i64_w, i32_w]
                      rfl
                    refine pure_ (i := 16) (N := some 95) (v := ?_) (a' := ?_) #[true, true, true, true, true, true, true, true, true, true, true, true, true, true, true, true, true, false, false] rfl rfl (any_of HT_.out (by kernel_rfl)) (fun _ _ _ h => h) (Or.inl ⟨by rfl, ?_⟩) ?_ ?_
                    rotate_left
                    · intro w'
                      go_simp
                      with_reducible rfl
                    rotate_left
                    · simp only [Act.put, List.setIfInBounds_toArray, List.set_cons_zero, List.set_cons_succ, i64_w, i32_w]
                      rfl
                    refine pure_ (i := 17) (N := some 15) (v := ?_) (a' := ?_) #[true, true, true, true, true, true, true, true, true, true, true, true, true, true, true, true, true, true, false] rfl rfl (any_of HT_.out (by kernel_rfl)) (fun _ _ _ h => h) (Or.inl ⟨by rfl, ?_⟩) ?_ ?_
                    rotate_left
                    · intro w'
                      go_simp
                      with_reducible rfl
                    rotate_left
                    · simp only [Act.put, List.setIfInBounds_toArray, List.set_cons_zero, List.set_cons_succ, i64_w, i32_w]
                      rfl
                    refine pure_ (i := 18) (N := some 16) (v := ?_) (a' := ?_) #[true, true, true, true, true, true, true, true, true, true, true, true, true, true, true, true, true, true, true] rfl rfl (any_of HT_.out (by kernel_rfl)) (fun _ _ _ h => h) (Or.inl ⟨by rfl, ?_⟩) ?_ ?_
                    rotate_left
                    · intro w'
                      go_simp
                      with_reducible rfl
                    rotate_left
                    · simp only [Act.put, List.setIfInBounds_toArray, List.set_cons_zero, List.set_cons_succ, i64_w, i32_w]
                      rfl
                    refine done_ (done_of HT_.out (by kernel_rfl)) ?_
                    go_upto_region 12 with (fail)
                    go_cut [101] (fun v101 wc => ∃ (kq : Nat) (x101_36 : Bool), v101 = .bool x101_36 ∧ Aside0 (slipsticklaw05_IeeeNear.j2 kq a1 a2 a3 t456 t461 x101_36 t437 t438 t439 = some r) ∧ Aside0 (kq ≤ kj16) ∧ Aside0 (wc.heap[gb441]? = some (.cells #[.int .i64 t437, .int .i64 t438, .int .i64 t439] 25 (0, 0))) ∧ Aside0 (Kd.C (Kd.int .u32) wc A453_1 ((rd_T36 y452 0).f1).length ((rd_T36 y452 0).f1)) ∧ Aside0 (Kd.C (Kd.int .u32) wc A453_1 ((rd_T36 y452 0).f1).length ((rd_T36 y452 0).f1)) ∧ Aside0 (Kd.C (Kd.int .u32) wc A455_1 ((rd_T36 y452 1).f1).length ((rd_T36 y452 1).f1)) ∧ Aside0 (Kd.C (Kd.int .u32) wc A458_1 ((rd_T36 y452 0).f1).length ((rd_T36 y452 0).f1)) ∧ Aside0 (Kd.C (Kd.int .u32) wc A459_1 ((rd_T36 y452 1).f1).length ((rd_T36 y452 1).f1)) ∧ Aside0 (Kd.C (Kd.int .u32) wc A459_1 ((rd_T36 y452 1).f1).length ((rd_T36 y452 1).f1)) ∧ Aside0 (Below w.heap.size w wc))
                    case first =>
                      have H := HC37.out
                      clear HC37
                      by_cases c46 : t457 = 0
                      · rw [if_pos c46] at H
                        have c46b0 : (t457 == 0) = true := beq_iff_eq.mpr c46
                        have c46b1 : (t457 != 0) = false := bne_eq_false_iff_eq.mpr c46
                        clear c46
                        (first | rw [c46b0] | (simp only [i64_w, i32_w]; rw [c46b0]) | skip)
                        have H' := Aside0.mk H
                        clear H
                        go_wp2
                        go_meet
                        case rel => exact ⟨_, ((t462 != 0)), (by first | rfl | (simp; done) | (simp [*]; done) | (simp; omega)), H', ⟨by have := HJ7.out; have := HJ16.out; first | omega | exact Nat.le_refl _⟩, ⟨by (with_reducible repeat (first | refine blk_drewN ?_ _ | refine blk_drew ?_ | refine blk_alloc ?_ _)); exact BK441.out⟩, ⟨by repeat (first | (with_reducible exact HR453_1.out) | (with_reducible refine Kd.C_alloc ?_ _) | (with_reducible refine Kd.C_drewN ?_ _) | (with_reducible refine Kd.C_drew ?_) | exact HR453_1.out)⟩, ⟨by repeat (first | (with_reducible exact HR454_1.out) | (with_reducible refine Kd.C_alloc ?_ _) | (with_reducible refine Kd.C_drewN ?_ _) | (with_reducible refine Kd.C_drew ?_) | exact HR454_1.out)⟩, ⟨by repeat (first | (with_reducible exact HR455_1.out) | (with_reducible refine Kd.C_alloc ?_ _) | (with_reducible refine Kd.C_drewN ?_ _) | (with_reducible refine Kd.C_drew ?_) | exact HR455_1.out)⟩, ⟨by repeat (first | (with_reducible exact HR458_1.out) | (with_reducible refine Kd.C_alloc ?_ _) | (with_reducible refine Kd.C_drewN ?_ _) | (with_reducible refine Kd.C_drew ?_) | exact HR458_1.out)⟩, ⟨by repeat (first | (with_reducible exact HR459_1.out) | (with_reducible refine Kd.C_alloc ?_ _) | (with_reducible refine Kd.C_drewN ?_ _) | (with_reducible refine Kd.C_drew ?_) | exact HR459_1.out)⟩, ⟨by repeat (first | (with_reducible exact HR460_1.out) | (with_reducible refine Kd.C_alloc ?_ _) | (with_reducible refine Kd.C_drewN ?_ _) | (with_reducible refine Kd.C_drew ?_) | exact HR460_1.out)⟩, ⟨by repeat (first | (with_reducible first | exact HB.out | apply below_alloc | apply pw_below_drewN | apply below_drew1 | refine below_set ?_ GE441.out) | exact HB.out)⟩⟩
                      · rw [if_neg c46] at H
                        have c46b0 : (t457 == 0) = false := beq_eq_false_iff_ne.mpr c46
                        have c46b1 : (t457 != 0) = true := bne_iff_ne.mpr c46
                        (first | rw [c46b0] | (simp only [i64_w, i32_w]; rw [c46b0]) | skip)
                        have H' := Aside0.mk H
                        clear H
                        go_wp2
                        go_meet
                        case rel => exact ⟨_, (true), (by first | rfl | (simp; done) | (simp [*]; done) | (simp; omega)), H', ⟨by have := HJ7.out; have := HJ16.out; first | omega | exact Nat.le_refl _⟩, ⟨by (with_reducible repeat (first | refine blk_drewN ?_ _ | refine blk_drew ?_ | refine blk_alloc ?_ _)); exact BK441.out⟩, ⟨by repeat (first | (with_reducible exact HR453_1.out) | (with_reducible refine Kd.C_alloc ?_ _) | (with_reducible refine Kd.C_drewN ?_ _) | (with_reducible refine Kd.C_drew ?_) | exact HR453_1.out)⟩, ⟨by repeat (first | (with_reducible exact HR454_1.out) | (with_reducible refine Kd.C_alloc ?_ _) | (with_reducible refine Kd.C_drewN ?_ _) | (with_reducible refine Kd.C_drew ?_) | exact HR454_1.out)⟩, ⟨by repeat (first | (with_reducible exact HR455_1.out) | (with_reducible refine Kd.C_alloc ?_ _) | (with_reducible refine Kd.C_drewN ?_ _) | (with_reducible refine Kd.C_drew ?_) | exact HR455_1.out)⟩, ⟨by repeat (first | (with_reducible exact HR458_1.out) | (with_reducible refine Kd.C_alloc ?_ _) | (with_reducible refine Kd.C_drewN ?_ _) | (with_reducible refine Kd.C_drew ?_) | exact HR458_1.out)⟩, ⟨by repeat (first | (with_reducible exact HR459_1.out) | (with_reducible refine Kd.C_alloc ?_ _) | (with_reducible refine Kd.C_drewN ?_ _) | (with_reducible refine Kd.C_drew ?_) | exact HR459_1.out)⟩, ⟨by repeat (first | (with_reducible exact HR460_1.out) | (with_reducible refine Kd.C_alloc ?_ _) | (with_reducible refine Kd.C_drewN ?_ _) | (with_reducible refine Kd.C_drew ?_) | exact HR460_1.out)⟩, ⟨by repeat (first | (with_reducible first | exact HB.out | apply below_alloc | apply pw_below_drewN | apply below_drew1 | refine below_set ?_ GE441.out) | exact HB.out)⟩⟩
                    case rest =>
                      clear HC37
                      try clear c1
                      try clear p2
                      try clear c4
                      try clear p4
                      try clear q4
                      try clear hx4
                      try clear qi4
                      try clear p6
                      try clear c15
                      try clear c45
                      try clear p45
                      try clear q45
                      try clear hx45
                      try clear qi45
                      try clear c46
                      try clear c46b0
                      try clear c46b1
                      try clear p46
                      try clear q46
                      try clear hx46
                      try clear qi46
                      try clear hx453_0
                      try clear hx453_1
                      try clear hx453_2
                      try clear hx454_0
                      try clear hx454_1
                      try clear hx454_2
                      try clear hx455_0
                      try clear hx455_1
                      try clear hx455_2
                      try clear hx458_0
                      try clear hx458_1
                      try clear hx458_2
                      try clear hx459_0
                      try clear hx459_1
                      try clear hx459_2
                      try clear hx460_0
                      try clear hx460_1
                      try clear hx460_2
                      try clear p455
                      try clear p458
                      try clear p459
                      try clear p460
                      try clear q455
                      try clear q458
                      try clear q459
                      try clear q460
                      obtain ⟨kq, x101_36, rfl, HA, HJ36, BK441, HR453_1, HR454_1, HR455_1, HR458_1, HR459_1, HR460_1, HB⟩ := hcut
                      cases kq with
                      | zero => exact absurd HA.out (by simp [slipsticklaw05_IeeeNear.j2])
                      | succ kj36 =>
                        have H := HA.out
                        clear HA
                        simp only [slipsticklaw05_IeeeNear.j2] at H
                        by_cases c47 : x101_36 = true
                        · subst c47
                          have H1 : (none) = some r := by rw [if_pos rfl] at H; exact H
                          clear H
                          have H := H1
                          clear H1
                          exact absurd H (by simp)
                        · replace c47 := Bool.eq_false_iff.mpr c47
                          subst c47
                          have H1 : (if t456 < 0 then (some true) else (if t461 > 0 then (some true) else ((ieee_Sub.f t437 t438 t439 a1 a2 a3).bind fun bt463 => (if bt463.2.2 = 0 then (some (bt463.2.1 == 0)) else (none))))) = some r := by rw [if_neg (show ¬ (false = true) by decide)] at H; exact H
                          clear H
                          have H := H1
                          clear H1
                          by_cases c48 : t456 < 0
                          · rw [if_pos c48] at H
                            have c48b0 : decide (t456 < 0) = true := decide_eq_true c48
                            clear c48
                            obtain rfl := Option.some.inj H
                            go_wp2
                            go_ret
                            exact ⟨by first | rfl | (simp [errW_none, errW_some] <;> rfl) | (simp [*, errW_none, errW_some] <;> rfl), by repeat (first | (with_reducible first | exact HB.out | apply below_alloc | apply pw_below_drewN | apply below_drew1 | refine below_set ?_ GE441.out) | exact HB.out)⟩
                          · rw [if_neg c48] at H
                            have c48b0 : decide (t456 < 0) = false := decide_eq_false c48
                            clear c48
                            by_cases c49 : t461 > 0
                            · rw [if_pos c49] at H
                              have c49b0 : decide (0 < t461) = true := decide_eq_true c49
                              clear c49
                              obtain rfl := Option.some.inj H
                              go_wp2
                              go_ret
                              exact ⟨by first | rfl | (simp [errW_none, errW_some] <;> rfl) | (simp [*, errW_none, errW_some] <;> rfl), by repeat (first | (with_reducible first | exact HB.out | apply below_alloc | apply pw_below_drewN | apply below_drew1 | refine below_set ?_ GE441.out) | exact HB.out)⟩
                            · rw [if_neg c49] at H
                              have c49b0 : decide (0 < t461) = false := decide_eq_false c49
                              clear c49
                              replace H := Option.bind_eq_some_iff.mp H
                              obtain ⟨⟨t463, t464, t465⟩, A500, H⟩ := H
                              replace H : (if t465 = 0 then (some (t464 == 0)) else (none)) = some r := H
                              have A50 := Aside0.mk A500
                              clear A500
                              by_cases c51 : t465 = 0
                              · rw [if_pos c51] at H
                                have c51b0 : (t465 == 0) = true := beq_iff_eq.mpr c51
                                have c51b1 : (t465 != 0) = false := bne_eq_false_iff_eq.mpr c51
                                clear c51
                                obtain rfl := Option.some.inj H
                                have hcz52_0 : wc.cell? ⟨gb441, 0, none⟩ = some (.int .i64 t437) := (blk_cell BK441.out 0).trans rfl
                                have hcz52_1 : wc.cell? ⟨gb441, 1, none⟩ = some (.int .i64 t438) := (blk_cell BK441.out 1).trans rfl
                                have hcz52_2 : wc.cell? ⟨gb441, 2, none⟩ = some (.int .i64 t439) := (blk_cell BK441.out 2).trans rfl
                                have hfz52_0 := blk_frozen BK441.out 0
                                have hfz52_1 := blk_frozen BK441.out 1
                                have hfz52_2 := blk_frozen BK441.out 2
                                go_wp2_with (first | ((with_reducible refine gate_callee (f := 16) rfl ?_); refine goesL_ (some 113) rfl rfl Try.func16 (by kernel_rfl) rfl #[.agg #[.int .i64 t437, .int .i64 t438, .int .i64 t439], .int .i64 a1, .int .u64 a2, .int .u64 a3] rfl (by (try simp only [List.map_toArray, List.map_cons, List.map_nil]); first | done | rfl | (simp only [List.length_drop, List.length_take]; rfl)) ?_; (with_reducible refine (ieee_Sub.calls t437 t438 t439 a1 a2 a3 t463 t464 t465 _ A50.out).mono ?_); rintro e w53 ⟨rfl, hb⟩; refine ⟨_, rfl, ?_⟩; have n0_ := Aside0.mk (blk_below (g := gb441) (o := .cells #[.int .i64 t437, .int .i64 t438, .int .i64 t439] 25 (0, 0)) (by (with_reducible repeat (first | refine blk_drewN ?_ _ | refine blk_drew ?_ | refine blk_alloc ?_ _)); exact BK441.out) hb); have n1_ := Aside0.mk (Kd.C_below (by repeat (first | (with_reducible exact HR453_1.out) | (with_reducible refine Kd.C_alloc ?_ _) | (with_reducible refine Kd.C_drewN ?_ _) | (with_reducible refine Kd.C_drew ?_) | exact HR453_1.out)) hb); have n2_ := Aside0.mk (Kd.C_below (by repeat (first | (with_reducible exact HR454_1.out) | (with_reducible refine Kd.C_alloc ?_ _) | (with_reducible refine Kd.C_drewN ?_ _) | (with_reducible refine Kd.C_drew ?_) | exact HR454_1.out)) hb); have n3_ := Aside0.mk (Kd.C_below (by repeat (first | (with_reducible exact HR455_1.out) | (with_reducible refine Kd.C_alloc ?_ _) | (with_reducible refine Kd.C_drewN ?_ _) | (with_reducible refine Kd.C_drew ?_) | exact HR455_1.out)) hb); have n4_ := Aside0.mk (Kd.C_below (by repeat (first | (with_reducible exact HR458_1.out) | (with_reducible refine Kd.C_alloc ?_ _) | (with_reducible refine Kd.C_drewN ?_ _) | (with_reducible refine Kd.C_drew ?_) | exact HR458_1.out)) hb); have n5_ := Aside0.mk (Kd.C_below (by repeat (first | (with_reducible exact HR459_1.out) | (with_reducible refine Kd.C_alloc ?_ _) | (with_reducible refine Kd.C_drewN ?_ _) | (with_reducible refine Kd.C_drew ?_) | exact HR459_1.out)) hb); have n6_ := Aside0.mk (Kd.C_below (by repeat (first | (with_reducible exact HR460_1.out) | (with_reducible refine Kd.C_alloc ?_ _) | (with_reducible refine Kd.C_drewN ?_ _) | (with_reducible refine Kd.C_drew ?_) | exact HR460_1.out)) hb); have n7_ := Aside0.mk (below_step (by repeat (first | (with_reducible first | exact HB.out | apply below_alloc | apply pw_below_drewN | apply below_drew1 | refine below_set ?_ GE441.out) | exact HB.out)) hb); clear BK441; clear HR453_1; clear HR454_1; clear HR455_1; clear HR458_1; clear HR459_1; clear HR460_1; clear HB; have BK441 := n0_; have HR453_1 := n1_; have HR454_1 := n2_; have HR455_1 := n3_; have HR458_1 := n4_; have HR459_1 := n5_; have HR460_1 := n6_; have HB := n7_; clear n0_ n1_ n2_ n3_ n4_ n5_ n6_ n7_; (try clear hb); (try clear hb2); (try clear hk); (try clear hi)))
                                go_ret
                                exact ⟨by first | rfl | (simp [errW_none, errW_some] <;> rfl) | (simp [*, errW_none, errW_some] <;> rfl), by repeat (first | (with_reducible first | exact HB.out | apply below_alloc | apply pw_below_drewN | apply below_drew1 | refine below_set ?_ GE441.out) | exact HB.out)⟩
                              · rw [if_neg c51] at H
                                exact absurd H (by simp)
                  · rw [if_neg c33] at H
                    exact absurd H (by simp)
                · rw [if_neg c31] at H
                  exact absurd H (by simp)
  · replace c6 := Bool.eq_false_iff.mpr c6
    subst c6
    have H1 : (none) = some r := by rw [if_neg (show ¬ (false = true) by decide)] at H; exact H
    clear H
    have H := H1
    clear H1
    exact absurd H (by simp)

/-- THE ONE PURE STATEMENT of slipsticklaw05_IeeeNear: yours. -/
def slipsticklaw05_IeeeNear.Pure : Prop := ∀ (a0 : Int) (a1 : Int) (a2 : Int) (a3 : Int), (Lit.int .i64 a0).wf = true → (Lit.int .i64 a1).wf = true → (Lit.int .u64 a2).wf = true → (Lit.int .u64 a3).wf = true → ∃ k, slipsticklaw05_IeeeNear.f k a0 a1 a2 a3 = some true

end Go.Proofs.Ytlaffgojgfdlnaa.P
