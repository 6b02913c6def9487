-- made by a changed copy of the kit's print (wip/hack.py)
import Derived.Test.YtgccgmpfcnhbgaaPx0
import Derived.Test.YtgccgmpfcnhbgaaPx2
import Derived.Test.YtgccgmpfcnhbgaaPx4
import Derived.Test.YtgccgmpfcnhbgaaPx5
import Derived.Test.YtgccgmpfcnhbgaaPx6
import Derived.Test.YtgccgmpfcnhbgaaPx7
namespace Go.Proofs.Ytgccgmpfcnhbgaa.P
open Go.RowKit Go.Proofs.YtgccgmpfcnhbgaaW.PrintWords Go.Proofs.YtgccgmpfcnhbgaaW.PrintLast Go.Proofs.YtgccgmpfcnhbgaaW.PrintMore
attribute [local go_sem] max2_int min2_int max_two min_two max_three min_three max_four min_four   -- for this text's walks alone
set_option linter.unusedVariables false
set_option linter.unusedSimpArgs false

/-! ### slipstickref01_Right: function 32 -/
def slipstickref01_Right.l0 : Nat → List Bool → Int → Bool → Int → Option (List Bool × Bool)
  | 0, _, _, _, _ => none
  | k + 1, x0, x1, x6, x7 => if x7 < x1 then (if x6 = true then (slipstickref01_Right.l0 k x0 x1 true (wrap64 (x7 + 1))) else (if 0 ≤ x7 then (if x7 < (x0.length : Int) then (slipstickref01_Right.l0 k x0 x1 (rdOf false x0 x7) (wrap64 (x7 + 1))) else (none)) else (none))) else (if 0 ≤ x1 then (if x1 ≤ (x0.length : Int) then (some ((x0.drop (x1 : Int).toNat), x6)) else (none)) else (none))
def slipstickref01_Right.f (k : Nat) (l0 : List Bool) (a1 : Int) : Option (List Bool × Bool) := slipstickref01_Right.l0 k l0 (mn (mx a1 0) (l0.length : Int)) false 0
theorem slipstickref01_Right.mono_l : ∀ k, (∀ y0 y1 y2 y3, LeO (slipstickref01_Right.l0 k y0 y1 y2 y3) (slipstickref01_Right.l0 (k + 1) y0 y1 y2 y3))
  | 0 => fun _ _ _ _ r h => by simp [slipstickref01_Right.l0] at h
  | k + 1 => by
    have ih0 := slipstickref01_Right.mono_l k
    · intro y0 y1 y2 y3
      unfold slipstickref01_Right.l0
      repeat' first
      | (with_reducible exact ih0 _ _ _ _)
      | (with_reducible exact LeO.refl _)
      | (with_reducible exact LeO.none _)
      | (with_reducible refine LeO.ite ?_ ?_)
      | (with_reducible refine LeO.bind ?_ (fun _ => ?_))
      | exact ih0 _ _ _ _
      | exact LeO.none _
      | refine LeO.ite ?_ ?_
      | refine LeO.bind ?_ (fun _ => ?_)
theorem slipstickref01_Right.mono : ∀ a0 a1 k, LeO (slipstickref01_Right.f k a0 a1) (slipstickref01_Right.f (k + 1) a0 a1) := by
  intro a0 a1 k
  have ih0 := slipstickref01_Right.mono_l k
  unfold slipstickref01_Right.f
  repeat' first
      | (with_reducible exact ih0 _ _ _ _)
      | (with_reducible exact LeO.refl _)
      | (with_reducible exact LeO.none _)
      | (with_reducible refine LeO.ite ?_ ?_)
      | (with_reducible refine LeO.bind ?_ (fun _ => ?_))
      | exact ih0 _ _ _ _
      | exact LeO.none _
      | refine LeO.ite ?_ ?_
      | refine LeO.bind ?_ (fun _ => ?_)
set_option maxHeartbeats 8000000 in
set_option maxRecDepth 100000 in
theorem slipstickref01_Right.calls (k : Nat) (P0_ : Nat → Prop) (A0 : Option Addr) (c0 : Nat) (l0 : List Bool) (a1 : Int) (r1 : List Bool) (r2 : Bool) (w : World) (hs0 : Kd.V Kd.bool 4 w w.heap.size (fun k_ => P0_ k_) (.slice A0 l0.length c0) l0) (h : slipstickref01_Right.f k l0 a1 = some (r1, r2)) :
    Calls Try.prog 32 #[.slice A0 l0.length c0, .int .i64 a1] w fun e w' => ∃ v0_ : Value, e = .returned (.tuple #[v0_, .bool r2]) ∧ Kd.V Kd.bool 4 w' w.heap.size (fun k_ => (P0_ k_ ∨ w.heap.size ≤ k_)) v0_ r1 ∧ Below w.heap.size w w' := by
  have HO0 := Aside0.mk (show Kd.V Kd.bool 4 w w.heap.size (fun k_ => (P0_ k_ ∨ w.heap.size ≤ k_)) (.slice A0 l0.length c0) l0 from Kd.V_mono hs0 (fun k_ hk => .inl hk))
  have HB := Aside0.mk (Below.refl w.heap.size w)
  have H : (slipstickref01_Right.l0 k l0 (mn (mx a1 0) (l0.length : Int)) false 0) = some (r1, r2) := h
  clear h
  obtain ⟨ji3, hji3⟩ : ∃ j_ : Int, (mx a1 0) = j_ := ⟨_, rfl⟩
  replace H : (slipstickref01_Right.l0 k l0 (mn (ji3) (l0.length : Int)) false 0) = some (r1, r2) := by first | (rw [hji3] at H; exact H) | (simp only [hji3] at H ⊢; exact H)
  (try (have hji3l : 0 ≤ ji3 := by (rw [← hji3]; unfold mx; (repeat' split) <;> omega)))
  (try (have hji3m : 0 ≤ ji3 := by omega))
  have hji3_ : (if a1 < 0 then 0 else a1) = ji3 := hji3
  obtain ⟨ji4, hji4⟩ : ∃ j_ : Int, (mn (ji3) (l0.length : Int)) = j_ := ⟨_, rfl⟩
  replace H : (slipstickref01_Right.l0 k l0 ji4 false 0) = some (r1, r2) := by first | (rw [hji4] at H; exact H) | (simp only [hji4] at H ⊢; exact H)
  have hji4_ : (if (l0.length : Int) < (ji3) then (l0.length : Int) else (ji3)) = ji4 := hji4
  have H' := Aside0.mk H
  clear H
  go_enter Try.func32, Try.ntmps32
  go_wp2
  go_loopg [6, 7] k (fun kq v6 v7 w' => ∃ (x6_1 : Bool) (x7_1 : Int), v6 = .bool x6_1 ∧ v7 = .int .i64 x7_1 ∧ Aside0 (slipstickref01_Right.l0 kq l0 ji4 x6_1 x7_1 = some (r1, r2)) ∧ Aside0 (kq ≤ k) ∧ Aside0 (Kd.V Kd.bool 4 w' w.heap.size (fun k_ => (P0_ k_ ∨ w.heap.size ≤ k_)) (.slice A0 l0.length c0) l0) ∧ Aside0 (Below w.heap.size w w'))
  case atStart => exact ⟨(false), (0), (by first | rfl | (simp; done) | (simp [*]; done) | (simp; omega)), (by first | rfl | (simp; done) | (simp [*]; done) | (simp; omega)), H', ⟨Nat.le_refl _⟩, ⟨by (with_reducible repeat (first | apply Kd.V_alloc | apply Kd.V_drewN | apply Kd.V_drew)); exact HO0.out⟩, ⟨by repeat (first | (with_reducible first | exact HB.out | apply below_alloc | apply pw_below_drewN | apply below_drew1) | exact HB.out)⟩⟩
  case round =>
    clear H'
    try clear p2
    try clear c3
    obtain ⟨x6_1, x7_1, rfl, rfl, HA, HK1, HO_0, HB⟩ := hrel
    cases gk with
    | zero => exact absurd HA.out (by simp [slipstickref01_Right.l0])
    | succ k1 =>
      have H := HA.out
      clear HA
      simp only [slipstickref01_Right.l0] at H
      by_cases c5 : x7_1 < ji4
      · rw [if_pos c5] at H
        have c5b0 : decide (x7_1 < ji4) = true := decide_eq_true c5
        clear c5
        by_cases c6 : x6_1 = true
        · subst c6
          have H1 : (slipstickref01_Right.l0 k1 l0 ji4 true (wrap64 (x7_1 + 1))) = some (r1, r2) := by rw [if_pos rfl] at H; exact H
          clear H
          have H := H1
          clear H1
          have H' := Aside0.mk H
          clear H
          go_wp2
          go_roundg k1
          case measure => have := HK1.out; omega
          case rel => exact ⟨(true), (wrap64 (x7_1 + 1)), (by first | rfl | (simp; done) | (simp [*]; done) | (simp; omega)), (by first | rfl | (simp; done) | (simp [*]; done) | (simp; omega)), H', ⟨by have := HK1.out; omega⟩, ⟨by (with_reducible repeat (first | apply Kd.V_alloc | apply Kd.V_drewN | apply Kd.V_drew)); exact HO_0.out⟩, ⟨by repeat (first | (with_reducible first | exact HB.out | apply below_alloc | apply pw_below_drewN | apply below_drew1) | exact HB.out)⟩⟩
        · replace c6 := Bool.eq_false_iff.mpr c6
          subst c6
          have H1 : (if 0 ≤ x7_1 then (if x7_1 < (l0.length : Int) then (slipstickref01_Right.l0 k1 l0 ji4 (rdOf false l0 x7_1) (wrap64 (x7_1 + 1))) else (none)) else (none)) = some (r1, r2) := by rw [if_neg (show ¬ (false = true) by decide)] at H; exact H
          clear H
          have H := H1
          clear H1
          by_cases c7 : 0 ≤ x7_1
          · rw [if_pos c7] at H
            have c7b0 : decide (0 ≤ x7_1) = true := decide_eq_true c7
            clear c7
            by_cases c8 : x7_1 < (l0.length : Int)
            · rw [if_pos c8] at H
              have c8b0 : decide (x7_1 < (l0.length : Int)) = true := decide_eq_true c8
              clear c8
              have H' := Aside0.mk H
              clear H
              have p433 : 0 ≤ (x7_1 : Int) := of_decide_eq_true (by first | (with_reducible assumption) | assumption)
              have q433 : x7_1 < (l0.length : Int) := of_decide_eq_true (by first | (with_reducible assumption) | assumption)
              obtain ⟨ad433, e433, hx433_0⟩ := Kd.at_bool (Kd.V_reads' HO_0.out).2.2 x7_1 p433 q433
              cases e433
              replace p433 := eq_true p433
              replace q433 := eq_true q433
              go_wp2
              go_roundg k1
              case measure => have := HK1.out; omega
              case rel => exact ⟨(rdOf false l0 x7_1), (wrap64 (x7_1 + 1)), (by first | rfl | (simp; done) | (simp [*]; done) | (simp; omega)), (by first | rfl | (simp; done) | (simp [*]; done) | (simp; omega)), H', ⟨by have := HK1.out; omega⟩, ⟨by (with_reducible repeat (first | apply Kd.V_alloc | apply Kd.V_drewN | apply Kd.V_drew)); exact HO_0.out⟩, ⟨by repeat (first | (with_reducible first | exact HB.out | apply below_alloc | apply pw_below_drewN | apply below_drew1) | exact HB.out)⟩⟩
            · rw [if_neg c8] at H
              exact absurd H (by simp)
          · rw [if_neg c7] at H
            exact absurd H (by simp)
      · rw [if_neg c5] at H
        have c5b0 : decide (x7_1 < ji4) = false := decide_eq_false c5
        clear c5
        by_cases c9 : 0 ≤ ji4
        · rw [if_pos c9] at H
          have c9b0 := eq_true c9
          have c9b1 : decide (0 ≤ ji4) = true := decide_eq_true c9
          clear c9
          by_cases c10 : ji4 ≤ (l0.length : Int)
          · rw [if_pos c10] at H
            have c10b0 := eq_true c10
            have c10b1 : decide (ji4 ≤ (l0.length : Int)) = true := decide_eq_true c10
            clear c10
            obtain ⟨y434, hy434⟩ : ∃ y_ : List Bool, y_ = (l0.drop (ji4 : Int).toNat) := ⟨_, rfl⟩
            replace H : (some (y434, x6_1)) = some (r1, r2) := by first | (rw [hy434]; with_reducible exact H) | (have H2_ := (Option.bind_some _ _).symm.trans H; rw [hy434]; with_reducible exact H2_) | (have H2_ := (Option.bind_some _ _).symm.trans H; with_reducible exact H2_) | with_reducible exact H | (rw [hy434]; exact H) | exact H
            have Ny434 := Aside0.mk hy434
            clear hy434
            simp only [Option.some.injEq, Prod.mk.injEq] at H
            obtain ⟨rfl, rfl⟩ := H
            have q11 : (ji4 : Int) ≤ ((l0.length : Int) : Int) := of_decide_eq_true (by first | (with_reducible assumption) | assumption)
            obtain ⟨i011, hi011, _, hsz11, _⟩ := info_parts info4
            have hroom11 : l0.length ≤ c0 := (Kd.V_reads' HO_0.out).2.1
            have hC11 : Kd.F Kd.bool _ _ A0 l0.length l0 := (Kd.V_at (base := w.heap.size) HO_0.out).2.2
            have q011 : (0 : Int) ≤ (ji4 : Int) := of_decide_eq_true (by first | (with_reducible assumption) | assumption)
            have hcut11 := cut_from (P := Try.prog) 26 4 .i64 Try.underlying26 hi011 1 hsz11 A0 l0.length c0 ji4 q011 q11
            have hr11 := Kd.F_cut (m := (ji4 : Int).toNat) (c := c0) hC11 (by omega) hroom11
            obtain ⟨A11, hA11⟩ : ∃ A1, A1 = (if c0 = (ji4 : Int).toNat then A0 else (A0 : Option Addr).map (·.add ((ji4 : Int).toNat * 1))) := ⟨_, rfl⟩
            obtain ⟨c11, hc11⟩ : ∃ c1, c1 = c0 - (ji4 : Int).toNat := ⟨_, rfl⟩
            have hy11 : y434.length = l0.length - (ji4 : Int).toNat := (by rw [Ny434.out, List.length_drop] <;> omega)
            rw [show (l0).drop (ji4 : Int).toNat = y434 from Ny434.out.symm] at hr11
            replace hr11 : Kd.F Kd.bool _ _ A11 y434.length y434 := (by rw [hA11]; exact hr11)
            rw [← hy11, ← hA11, ← hc11] at hcut11
            have HO438 := Aside0.mk (show Kd.V Kd.bool 4 _ w.heap.size _ (.slice A11 y434.length c11) y434 from Kd.V_mk (by rw [hy11, hc11]; exact Nat.sub_le_sub_right hroom11 _) hr11)
            have HC438 := Aside0.mk (show y434.length ≤ c11 from by rw [hy11, hc11]; exact Nat.sub_le_sub_right hroom11 _)
            clear hr11 hC11 hroom11 hi011 hsz11 hc11
            have KY11 := Aside0.mk hy11
            have KA11 := Aside0.mk hA11
            clear hy11 hA11
            replace q11 := eq_true q11
            go_wp2
            go_ret2
            exact ⟨_, by first | rfl | (simp [errW_none, errW_some] <;> rfl) | (simp only [← hji3, ← hji4]; first | rfl | (simp [errW_none, errW_some] <;> rfl)) | (simp [*, errW_none, errW_some] <;> rfl), by (with_reducible repeat (first | apply Kd.V_alloc | apply Kd.V_drewN | apply Kd.V_drew)); exact HO438.out, by repeat (first | (with_reducible first | exact HB.out | apply below_alloc | apply pw_below_drewN | apply below_drew1) | exact HB.out)⟩
          · rw [if_neg c10] at H
            exact absurd H (by simp)
        · rw [if_neg c9] at H
          exact absurd H (by simp)

/-! ### slipsticklaw01_NatShifts: function 5 -/
mutual
def slipsticklaw01_NatShifts.j0 : Nat → Int → List Bool → List Int → Int → Bool → Option (Bool)
  | 0, _, _, _, _, _ => none
  | k + 1, x1, x5, x6, x7, x46 => if x46 = true then (none) else (if x1 < 0 then (if x7 = 1 then (some ((x6.length : Int) == 0)) else (none)) else (if (x5.length : Int) > 0 then (slipsticklaw01_NatShifts.j1 k x1 x5 x6 x7 (decide (x1 > (wrap64 (16384 - (x5.length : Int)))))) else (slipsticklaw01_NatShifts.j1 k x1 x5 x6 x7 false)))
def slipsticklaw01_NatShifts.j1 : Nat → Int → List Bool → List Int → Int → Bool → Option (Bool)
  | 0, _, _, _, _, _ => none
  | k + 1, x1, x5, x6, x7, x65 => if x65 = true then (if x7 = 6 then (some ((x6.length : Int) == 0)) else (none)) else (if x7 = 0 then (if (x5.length : Int) = 0 then (if (x6.length : Int) = 0 then (some true) else ((slipstickref01_Left.f x5 x1).bind fun t459 => ((slipstickref01_Parts.f k t459).bind fun t462 => ((slipstickref01_Same.f k x6 t462).bind fun t465 => (some t465))))) else ((slipstickref01_Left.f x5 x1).bind fun t466 => ((slipstickref01_Parts.f k t466).bind fun t469 => ((slipstickref01_Same.f k x6 t469).bind fun t472 => (some t472))))) else (none))
end
def slipsticklaw01_NatShifts.f (k : Nat) (l0 : List Int) (a1 : Int) : Option (Bool) := (slipsticklaw01_awake.f k).bind fun t439 => (if t439 = true then (if (l0.length : Int) > 24 then (some true) else ((slipstickref01_Of.f k l0).bind fun t440 => ((nat_Nat_Left.f k l0 a1).bind fun bt443 => ((nat_Nat_Right.f k l0 a1).bind fun bt447 => ((slipstickref01_Right.f k t440 a1).bind fun bt451 => ((slipstickref01_Parts.f k bt451.1).bind fun t455 => ((slipstickref01_Same.f k bt447.1 t455).bind fun t458 => (if t458 = true then (slipsticklaw01_NatShifts.j0 k a1 t440 bt443.1 bt443.2 (bt447.2 != bt451.2)) else (slipsticklaw01_NatShifts.j0 k a1 t440 bt443.1 bt443.2 true))))))))) else (none))
theorem slipsticklaw01_NatShifts.mono_l : ∀ k, (∀ y0 y1 y2 y3 y4, LeO (slipsticklaw01_NatShifts.j0 k y0 y1 y2 y3 y4) (slipsticklaw01_NatShifts.j0 (k + 1) y0 y1 y2 y3 y4)) ∧ (∀ y0 y1 y2 y3 y4, LeO (slipsticklaw01_NatShifts.j1 k y0 y1 y2 y3 y4) (slipsticklaw01_NatShifts.j1 (k + 1) y0 y1 y2 y3 y4))
  | 0 => ⟨fun _ _ _ _ _ r h => by simp [slipsticklaw01_NatShifts.j0] at h, fun _ _ _ _ _ r h => by simp [slipsticklaw01_NatShifts.j1] at h⟩
  | k + 1 => by
    obtain ⟨ih0, ih1⟩ := slipsticklaw01_NatShifts.mono_l k
    refine ⟨?_, ?_⟩
    · intro y0 y1 y2 y3 y4
      unfold slipsticklaw01_NatShifts.j0
      repeat' first
      | (with_reducible exact ih0 _ _ _ _ _)
      | (with_reducible exact ih1 _ _ _ _ _)
      | (with_reducible exact nat_Nat_Left.mono _ _ _)
      | (with_reducible exact nat_Nat_Right.mono _ _ _)
      | (with_reducible exact slipsticklaw01_awake.mono _)
      | (with_reducible exact slipstickref01_Of.mono _ _)
      | (with_reducible exact slipstickref01_Parts.mono _ _)
      | (with_reducible exact slipstickref01_Right.mono _ _ _)
      | (with_reducible exact slipstickref01_Same.mono _ _ _)
      | (with_reducible exact LeO.refl _)
      | (with_reducible exact LeO.none _)
      | (with_reducible refine LeO.ite ?_ ?_)
      | (with_reducible refine LeO.bind ?_ (fun _ => ?_))
      | exact ih0 _ _ _ _ _
      | exact ih1 _ _ _ _ _
      | exact nat_Nat_Left.mono _ _ _
      | exact nat_Nat_Right.mono _ _ _
      | exact slipsticklaw01_awake.mono _
      | exact slipstickref01_Of.mono _ _
      | exact slipstickref01_Parts.mono _ _
      | exact slipstickref01_Right.mono _ _ _
      | exact slipstickref01_Same.mono _ _ _
      | exact LeO.none _
      | refine LeO.ite ?_ ?_
      | refine LeO.bind ?_ (fun _ => ?_)
    · intro y0 y1 y2 y3 y4
      unfold slipsticklaw01_NatShifts.j1
      repeat' first
      | (with_reducible exact ih0 _ _ _ _ _)
      | (with_reducible exact ih1 _ _ _ _ _)
      | (with_reducible exact nat_Nat_Left.mono _ _ _)
      | (with_reducible exact nat_Nat_Right.mono _ _ _)
      | (with_reducible exact slipsticklaw01_awake.mono _)
      | (with_reducible exact slipstickref01_Of.mono _ _)
      | (with_reducible exact slipstickref01_Parts.mono _ _)
      | (with_reducible exact slipstickref01_Right.mono _ _ _)
      | (with_reducible exact slipstickref01_Same.mono _ _ _)
      | (with_reducible exact LeO.refl _)
      | (with_reducible exact LeO.none _)
      | (with_reducible refine LeO.ite ?_ ?_)
      | (with_reducible refine LeO.bind ?_ (fun _ => ?_))
      | exact ih0 _ _ _ _ _
      | exact ih1 _ _ _ _ _
      | exact nat_Nat_Left.mono _ _ _
      | exact nat_Nat_Right.mono _ _ _
      | exact slipsticklaw01_awake.mono _
      | exact slipstickref01_Of.mono _ _
      | exact slipstickref01_Parts.mono _ _
      | exact slipstickref01_Right.mono _ _ _
      | exact slipstickref01_Same.mono _ _ _
      | exact LeO.none _
      | refine LeO.ite ?_ ?_
      | refine LeO.bind ?_ (fun _ => ?_)
theorem slipsticklaw01_NatShifts.mono : ∀ a0 a1 k, LeO (slipsticklaw01_NatShifts.f k a0 a1) (slipsticklaw01_NatShifts.f (k + 1) a0 a1) := by
  intro a0 a1 k
  obtain ⟨ih0, ih1⟩ := slipsticklaw01_NatShifts.mono_l k
  unfold slipsticklaw01_NatShifts.f
  repeat' first
      | (with_reducible exact ih0 _ _ _ _ _)
      | (with_reducible exact ih1 _ _ _ _ _)
      | (with_reducible exact nat_Nat_Left.mono _ _ _)
      | (with_reducible exact nat_Nat_Right.mono _ _ _)
      | (with_reducible exact slipsticklaw01_awake.mono _)
      | (with_reducible exact slipstickref01_Of.mono _ _)
      | (with_reducible exact slipstickref01_Parts.mono _ _)
      | (with_reducible exact slipstickref01_Right.mono _ _ _)
      | (with_reducible exact slipstickref01_Same.mono _ _ _)
      | (with_reducible exact LeO.refl _)
      | (with_reducible exact LeO.none _)
      | (with_reducible refine LeO.ite ?_ ?_)
      | (with_reducible refine LeO.bind ?_ (fun _ => ?_))
      | exact ih0 _ _ _ _ _
      | exact ih1 _ _ _ _ _
      | exact nat_Nat_Left.mono _ _ _
      | exact nat_Nat_Right.mono _ _ _
      | exact slipsticklaw01_awake.mono _
      | exact slipstickref01_Of.mono _ _
      | exact slipstickref01_Parts.mono _ _
      | exact slipstickref01_Right.mono _ _ _
      | exact slipstickref01_Same.mono _ _ _
      | exact LeO.none _
      | refine LeO.ite ?_ ?_
      | refine LeO.bind ?_ (fun _ => ?_)
set_option maxHeartbeats 8000000 in
set_option maxRecDepth 100000 in
theorem slipsticklaw01_NatShifts.calls (k : Nat) (A0 : Option Addr) (c0 : Nat) (l0 : List Int) (a1 : Int) (r : Bool) (w : World) (hr0 : Kd.C (Kd.int .u32) w A0 l0.length l0) (hc0 : l0.length ≤ c0) (h : slipsticklaw01_NatShifts.f k l0 a1 = some r) :
    Calls Try.prog 5 #[.slice A0 l0.length c0, .int .i64 a1] w fun e w' => e = .returned (.bool r) ∧ Below w.heap.size w w' := by
  have HR0 := Aside0.mk hr0
  have HC0 := Aside0.mk hc0
  clear hr0 hc0
  have HB := Aside0.mk (Below.refl w.heap.size w)
  have H : ((slipsticklaw01_awake.f k).bind fun t439 => (if t439 = true then (if (l0.length : Int) > 24 then (some true) else ((slipstickref01_Of.f k l0).bind fun t440 => ((nat_Nat_Left.f k l0 a1).bind fun bt443 => ((nat_Nat_Right.f k l0 a1).bind fun bt447 => ((slipstickref01_Right.f k t440 a1).bind fun bt451 => ((slipstickref01_Parts.f k bt451.1).bind fun t455 => ((slipstickref01_Same.f k bt447.1 t455).bind fun t458 => (if t458 = true then (slipsticklaw01_NatShifts.j0 k a1 t440 bt443.1 bt443.2 (bt447.2 != bt451.2)) else (slipsticklaw01_NatShifts.j0 k a1 t440 bt443.1 bt443.2 true))))))))) else (none))) = some r := h
  clear h
  replace H := Option.bind_eq_some_iff.mp H
  obtain ⟨t439, A30, H⟩ := H
  replace H : (if t439 = true then (if (l0.length : Int) > 24 then (some true) else ((slipstickref01_Of.f k l0).bind fun t440 => ((nat_Nat_Left.f k l0 a1).bind fun bt443 => ((nat_Nat_Right.f k l0 a1).bind fun bt447 => ((slipstickref01_Right.f k t440 a1).bind fun bt451 => ((slipstickref01_Parts.f k bt451.1).bind fun t455 => ((slipstickref01_Same.f k bt447.1 t455).bind fun t458 => (if t458 = true then (slipsticklaw01_NatShifts.j0 k a1 t440 bt443.1 bt443.2 (bt447.2 != bt451.2)) else (slipsticklaw01_NatShifts.j0 k a1 t440 bt443.1 bt443.2 true))))))))) else (none)) = some r := H
  have A3 := Aside0.mk A30
  clear A30
  by_cases c4 : t439 = true
  · subst c4
    have H1 : (if (l0.length : Int) > 24 then (some true) else ((slipstickref01_Of.f k l0).bind fun t440 => ((nat_Nat_Left.f k l0 a1).bind fun bt443 => ((nat_Nat_Right.f k l0 a1).bind fun bt447 => ((slipstickref01_Right.f k t440 a1).bind fun bt451 => ((slipstickref01_Parts.f k bt451.1).bind fun t455 => ((slipstickref01_Same.f k bt447.1 t455).bind fun t458 => (if t458 = true then (slipsticklaw01_NatShifts.j0 k a1 t440 bt443.1 bt443.2 (bt447.2 != bt451.2)) else (slipsticklaw01_NatShifts.j0 k a1 t440 bt443.1 bt443.2 true))))))))) = some r := by rw [if_pos rfl] at H; exact H
    clear H
    have H := H1
    clear H1
    by_cases c5 : (l0.length : Int) > 24
    · rw [if_pos c5] at H
      have c5b0 : decide (24 < (l0.length : Int)) = true := decide_eq_true c5
      have c5b1 : decide (24 < l0.length) = true := decide_eq_true (by omega)
      clear c5
      obtain rfl := Option.some.inj H
      go_enter Try.func5, Try.ntmps5
      go_wp2_with (first | ((with_reducible refine gate_callee (f := 9) rfl ?_); refine goesL_ (some 12) rfl rfl Try.func9 (by kernel_rfl) rfl #[] rfl (by (try simp only [List.map_toArray, List.map_cons, List.map_nil]); first | done | rfl | (simp only [List.length_drop, List.length_take]; rfl)) ?_; (with_reducible refine (slipsticklaw01_awake.calls k  true _ A3.out).mono ?_); rintro e w6 ⟨rfl, hb⟩; refine ⟨_, rfl, ?_⟩; have n0_ := Aside0.mk (below_step (by repeat (first | (with_reducible first | exact HB.out | apply below_alloc | apply pw_below_drewN | apply below_drew1) | exact HB.out)) hb); clear HB; have HB := n0_; clear n0_; (try clear hb); (try clear hb2); (try clear hk); (try clear hi)))
      go_ret
      exact ⟨by first | rfl | (simp [errW_none, errW_some] <;> rfl) | (simp [*, errW_none, errW_some] <;> rfl), by repeat (first | (with_reducible first | exact HB.out | apply below_alloc | apply pw_below_drewN | apply below_drew1) | exact HB.out)⟩
    · rw [if_neg c5] at H
      have c5b0 : decide (24 < (l0.length : Int)) = false := decide_eq_false c5
      have c5b1 : decide (24 < l0.length) = false := decide_eq_false (by omega)
      clear c5
      replace H := Option.bind_eq_some_iff.mp H
      obtain ⟨t440, A70, H⟩ := H
      replace H : ((nat_Nat_Left.f k l0 a1).bind fun bt443 => ((nat_Nat_Right.f k l0 a1).bind fun bt447 => ((slipstickref01_Right.f k t440 a1).bind fun bt451 => ((slipstickref01_Parts.f k bt451.1).bind fun t455 => ((slipstickref01_Same.f k bt447.1 t455).bind fun t458 => (if t458 = true then (slipsticklaw01_NatShifts.j0 k a1 t440 bt443.1 bt443.2 (bt447.2 != bt451.2)) else (slipsticklaw01_NatShifts.j0 k a1 t440 bt443.1 bt443.2 true))))))) = some r := H
      have A7 := Aside0.mk A70
      clear A70
      replace H := Option.bind_eq_some_iff.mp H
      obtain ⟨⟨t443, t446⟩, A80, H⟩ := H
      replace H : ((nat_Nat_Right.f k l0 a1).bind fun bt447 => ((slipstickref01_Right.f k t440 a1).bind fun bt451 => ((slipstickref01_Parts.f k bt451.1).bind fun t455 => ((slipstickref01_Same.f k bt447.1 t455).bind fun t458 => (if t458 = true then (slipsticklaw01_NatShifts.j0 k a1 t440 t443 t446 (bt447.2 != bt451.2)) else (slipsticklaw01_NatShifts.j0 k a1 t440 t443 t446 true)))))) = some r := H
      have A8 := Aside0.mk A80
      clear A80
      replace H := Option.bind_eq_some_iff.mp H
      obtain ⟨⟨t447, t450⟩, A90, H⟩ := H
      replace H : ((slipstickref01_Right.f k t440 a1).bind fun bt451 => ((slipstickref01_Parts.f k bt451.1).bind fun t455 => ((slipstickref01_Same.f k t447 t455).bind fun t458 => (if t458 = true then (slipsticklaw01_NatShifts.j0 k a1 t440 t443 t446 (t450 != bt451.2)) else (slipsticklaw01_NatShifts.j0 k a1 t440 t443 t446 true))))) = some r := H
      have A9 := Aside0.mk A90
      clear A90
      replace H := Option.bind_eq_some_iff.mp H
      obtain ⟨⟨t451, t454⟩, A100, H⟩ := H
      replace H : ((slipstickref01_Parts.f k t451).bind fun t455 => ((slipstickref01_Same.f k t447 t455).bind fun t458 => (if t458 = true then (slipsticklaw01_NatShifts.j0 k a1 t440 t443 t446 (t450 != t454)) else (slipsticklaw01_NatShifts.j0 k a1 t440 t443 t446 true)))) = some r := H
      have A10 := Aside0.mk A100
      clear A100
      have HC11 := Aside0.mk H
      clear H
      go_enter Try.func5, Try.ntmps5
      go_upto_region 9 with (first | ((with_reducible refine gate_callee (f := 9) rfl ?_); refine goesL_ (some 12) rfl rfl Try.func9 (by kernel_rfl) rfl #[] rfl (by (try simp only [List.map_toArray, List.map_cons, List.map_nil]); first | done | rfl | (simp only [List.length_drop, List.length_take]; rfl)) ?_; (with_reducible refine (slipsticklaw01_awake.calls k  true _ A3.out).mono ?_); rintro e w12 ⟨rfl, hb⟩; refine ⟨_, rfl, ?_⟩; have n0_ := Aside0.mk (below_step (by repeat (first | (with_reducible first | exact HB.out | apply below_alloc | apply pw_below_drewN | apply below_drew1) | exact HB.out)) hb); clear HB; have HB := n0_; clear n0_; (try clear hb); (try clear hb2); (try clear hk); (try clear hi)) | ((with_reducible refine gate_callee (f := 10) rfl ?_); refine goesL_ (some 18) rfl rfl Try.func10 (by kernel_rfl) rfl #[.slice A0 l0.length c0] rfl (by (try simp only [List.map_toArray, List.map_cons, List.map_nil]); first | done | rfl | (simp only [List.length_drop, List.length_take]; rfl)) ?_; (with_reducible refine (slipstickref01_Of.calls k _ _ l0 t440 _ ?side1 ?side2 A7.out).mono ?_); (case side1 => repeat (first | exact (Kd.C_below HR0.out HB.out) | (with_reducible refine Kd.C_alloc ?_ _) | (with_reducible refine Kd.C_drewN ?_ _) | (with_reducible refine Kd.C_drew ?_))); (case side2 => exact HC0.out); rintro e w13 ⟨v441, rfl, ho0, hb⟩; refine ⟨_, rfl, ?_⟩; have n0_ := Aside0.mk (Kd.V_lower (Kd.V_mono (ok' := fun k_ => True) ho0 (fun k_ hk_ => trivial)) (below_size (by repeat (first | (with_reducible first | exact HB.out | apply below_alloc | apply pw_below_drewN | apply below_drew1) | exact HB.out)))); have n1_ := Aside0.mk (below_step (by repeat (first | (with_reducible first | exact HB.out | apply below_alloc | apply pw_below_drewN | apply below_drew1) | exact HB.out)) hb); clear HB; have HO442 := n0_; have HB := n1_; clear n0_ n1_; (try clear hb); (try clear hb2); (try clear hk); (try clear hi); (try clear ho0)) | ((with_reducible refine gate_callee (f := 30) rfl ?_); refine goesL_ (some 22) rfl rfl Try.func30 (by kernel_rfl) rfl #[.slice A0 l0.length c0, .int .i64 a1] rfl (by (try simp only [List.map_toArray, List.map_cons, List.map_nil]); first | done | rfl | (simp only [List.length_drop, List.length_take]; rfl)) ?_; (with_reducible refine (nat_Nat_Left.calls k _ _ l0 a1 t443 t446 _ ?side1 ?side2 A8.out).mono ?_); (case side1 => repeat (first | exact (Kd.C_below HR0.out HB.out) | (with_reducible refine Kd.C_alloc ?_ _) | (with_reducible refine Kd.C_drewN ?_ _) | (with_reducible refine Kd.C_drew ?_))); (case side2 => exact HC0.out); rintro e w14 ⟨v444, rfl, ho0, hb⟩; refine ⟨_, rfl, ?_⟩; have n0_ := Aside0.mk (Kd.V_below (by (with_reducible repeat (first | apply Kd.V_alloc | apply Kd.V_drewN | apply Kd.V_drew)); exact HO442.out) hb); have n1_ := Aside0.mk (Kd.V_lower (Kd.V_mono (ok' := fun k_ => True) ho0 (fun k_ hk_ => trivial)) (below_size (by repeat (first | (with_reducible first | exact HB.out | apply below_alloc | apply pw_below_drewN | apply below_drew1) | exact HB.out)))); have n2_ := Aside0.mk (below_step (by repeat (first | (with_reducible first | exact HB.out | apply below_alloc | apply pw_below_drewN | apply below_drew1) | exact HB.out)) hb); clear HO442; clear HB; have HO442 := n0_; have HO445 := n1_; have HB := n2_; clear n0_ n1_ n2_; (try clear hb); (try clear hb2); (try clear hk); (try clear hi); (try clear ho0)) | ((with_reducible refine gate_callee (f := 31) rfl ?_); refine goesL_ (some 28) rfl rfl Try.func31 (by kernel_rfl) rfl #[.slice A0 l0.length c0, .int .i64 a1] rfl (by (try simp only [List.map_toArray, List.map_cons, List.map_nil]); first | done | rfl | (simp only [List.length_drop, List.length_take]; rfl)) ?_; (with_reducible refine (nat_Nat_Right.calls k _ _ l0 a1 t447 t450 _ ?side1 ?side2 A9.out).mono ?_); (case side1 => repeat (first | exact (Kd.C_below HR0.out HB.out) | (with_reducible refine Kd.C_alloc ?_ _) | (with_reducible refine Kd.C_drewN ?_ _) | (with_reducible refine Kd.C_drew ?_))); (case side2 => exact HC0.out); rintro e w15 ⟨v448, rfl, ho0, hb⟩; refine ⟨_, rfl, ?_⟩; have n0_ := Aside0.mk (Kd.V_below (by (with_reducible repeat (first | apply Kd.V_alloc | apply Kd.V_drewN | apply Kd.V_drew)); exact HO442.out) hb); have n1_ := Aside0.mk (Kd.V_below (by (with_reducible repeat (first | apply Kd.V_alloc | apply Kd.V_drewN | apply Kd.V_drew)); exact HO445.out) hb); have n2_ := Aside0.mk (Kd.V_lower (Kd.V_mono (ok' := fun k_ => True) ho0 (fun k_ hk_ => trivial)) (below_size (by repeat (first | (with_reducible first | exact HB.out | apply below_alloc | apply pw_below_drewN | apply below_drew1) | exact HB.out)))); have n3_ := Aside0.mk (below_step (by repeat (first | (with_reducible first | exact HB.out | apply below_alloc | apply pw_below_drewN | apply below_drew1) | exact HB.out)) hb); clear HO442; clear HO445; clear HB; have HO442 := n0_; have HO445 := n1_; have HO449 := n2_; have HB := n3_; clear n0_ n1_ n2_ n3_; (try clear hb); (try clear hb2); (try clear hk); (try clear hi); (try clear ho0); obtain ⟨Ao16, co16, eo16⟩ := Kd.V_slice HO442.out; subst eo16) | ((with_reducible refine gate_callee (f := 32) rfl ?_); refine goesL_ (some 34) rfl rfl Try.func32 (by kernel_rfl) rfl #[.slice Ao16 t440.length co16, .int .i64 a1] rfl (by (try simp only [List.map_toArray, List.map_cons, List.map_nil]); first | done | rfl | (simp only [List.length_drop, List.length_take]; rfl)) ?_; (with_reducible refine (slipstickref01_Right.calls k (fun k_ => True) _ _ t440 a1 t451 t454 _ ?side1 A10.out).mono ?_); (case side1 => exact HO442.out); rintro e w17 ⟨v452, rfl, ho0, hb⟩; refine ⟨_, rfl, ?_⟩; have n0_ := Aside0.mk (Kd.V_below (by (with_reducible repeat (first | apply Kd.V_alloc | apply Kd.V_drewN | apply Kd.V_drew)); exact HO442.out) hb); have n1_ := Aside0.mk (Kd.V_below (by (with_reducible repeat (first | apply Kd.V_alloc | apply Kd.V_drewN | apply Kd.V_drew)); exact HO445.out) hb); have n2_ := Aside0.mk (Kd.V_below (by (with_reducible repeat (first | apply Kd.V_alloc | apply Kd.V_drewN | apply Kd.V_drew)); exact HO449.out) hb); have n3_ := Aside0.mk (Kd.V_lower (Kd.V_mono (ok' := fun k_ => True) ho0 (fun k_ hk_ => trivial)) (below_size (by repeat (first | (with_reducible first | exact HB.out | apply below_alloc | apply pw_below_drewN | apply below_drew1) | exact HB.out)))); have n4_ := Aside0.mk (below_step (by repeat (first | (with_reducible first | exact HB.out | apply below_alloc | apply pw_below_drewN | apply below_drew1) | exact HB.out)) hb); clear HO442; clear HO445; clear HO449; clear HB; have HO442 := n0_; have HO445 := n1_; have HO449 := n2_; have HO453 := n3_; have HB := n4_; clear n0_ n1_ n2_ n3_ n4_; (try clear hb); (try clear hb2); (try clear hk); (try clear hi); (try clear ho0)))
      (try simp only [Act.put, List.setIfInBounds_toArray, List.set_cons_zero, List.set_cons_succ])
      go_cut [46] (fun v46 wc => ∃ (kq : Nat) (x46_10 : Bool), v46 = .bool x46_10 ∧ Aside0 (slipsticklaw01_NatShifts.j0 kq a1 t440 t443 t446 x46_10 = some r) ∧ Aside0 (kq ≤ k) ∧ Aside0 (Kd.V Kd.bool 4 wc w.heap.size (fun _ => True) (.slice Ao16 t440.length co16) t440) ∧ Aside0 (Kd.V (Kd.int .u32) 60 wc w.heap.size (fun _ => True) v444 t443) ∧ Aside0 (Below w.heap.size w wc))
      case first =>
        have H := HC11.out
        clear HC11
        replace H := Option.bind_eq_some_iff.mp H
        obtain ⟨t455, A180, H⟩ := H
        replace H : ((slipstickref01_Same.f k t447 t455).bind fun t458 => (if t458 = true then (slipsticklaw01_NatShifts.j0 k a1 t440 t443 t446 (t450 != t454)) else (slipsticklaw01_NatShifts.j0 k a1 t440 t443 t446 true))) = some r := H
        have A18 := Aside0.mk A180
        clear A180
        replace H := Option.bind_eq_some_iff.mp H
        obtain ⟨t458, A190, H⟩ := H
        replace H : (if t458 = true then (slipsticklaw01_NatShifts.j0 k a1 t440 t443 t446 (t450 != t454)) else (slipsticklaw01_NatShifts.j0 k a1 t440 t443 t446 true)) = some r := H
        have A19 := Aside0.mk A190
        clear A190
        by_cases c20 : t458 = true
        · subst c20
          have H1 : (slipsticklaw01_NatShifts.j0 k a1 t440 t443 t446 (t450 != t454)) = some r := by rw [if_pos rfl] at H; exact H
          clear H
          have H := H1
          clear H1
          have H' := Aside0.mk H
          clear H
          obtain ⟨Ao21, co21, eo21⟩ := Kd.V_slice HO453.out
          subst eo21
          go_wp2_with (first | ((with_reducible refine gate_callee (f := 15) rfl ?_); refine goesL_ (some 39) rfl rfl Try.func15 (by kernel_rfl) rfl #[.slice Ao21 t451.length co21] rfl (by (try simp only [List.map_toArray, List.map_cons, List.map_nil]); first | done | rfl | (simp only [List.length_drop, List.length_take]; rfl)) ?_; (with_reducible refine (slipstickref01_Parts.calls k _ _ t451 t455 _ ?side1 ?side2 A18.out).mono ?_); (case side1 => repeat (first | exact (Kd.V_reads' HO453.out).2.2 | (with_reducible refine Kd.C_alloc ?_ _) | (with_reducible refine Kd.C_drewN ?_ _) | (with_reducible refine Kd.C_drew ?_))); (case side2 => exact (Kd.V_reads' HO453.out).2.1); rintro e w22 ⟨v456, rfl, ho0, hb⟩; refine ⟨_, rfl, ?_⟩; have n0_ := Aside0.mk (Kd.V_elder' (by (with_reducible repeat (first | apply Kd.V_alloc | apply Kd.V_drewN | apply Kd.V_drew)); exact HO442.out) (Kd.R_base ho0) hb); have n1_ := Aside0.mk (Kd.V_elder' (by (with_reducible repeat (first | apply Kd.V_alloc | apply Kd.V_drewN | apply Kd.V_drew)); exact HO445.out) (Kd.R_base ho0) hb); have n2_ := Aside0.mk (Kd.V_elder' (by (with_reducible repeat (first | apply Kd.V_alloc | apply Kd.V_drewN | apply Kd.V_drew)); exact HO449.out) (Kd.R_base ho0) hb); have n3_ := Aside0.mk (Kd.V_elder' (by (with_reducible repeat (first | apply Kd.V_alloc | apply Kd.V_drewN | apply Kd.V_drew)); exact HO453.out) (Kd.R_base ho0) hb); have n4_ := Aside0.mk (Kd.R_lower ho0 (below_size (by repeat (first | (with_reducible first | exact HB.out | apply below_alloc | apply pw_below_drewN | apply below_drew1) | exact HB.out)))); have n5_ := Aside0.mk (below_step (by repeat (first | (with_reducible first | exact HB.out | apply below_alloc | apply pw_below_drewN | apply below_drew1) | exact HB.out)) hb); clear HO442; clear HO445; clear HO449; clear HO453; clear HB; have HO442 := n0_; have HO445 := n1_; have HO449 := n2_; have HO453 := n3_; have HO457 := n4_; have HB := n5_; clear n0_ n1_ n2_ n3_ n4_ n5_; (try clear hb); (try clear hb2); (try clear hk); (try clear hi); (try clear ho0); obtain ⟨Ao23, co23, eo23⟩ := Kd.V_slice HO449.out; subst eo23; obtain ⟨Ao24, co24, eo24⟩ := Kd.R_slice HO457.out; subst eo24) | ((with_reducible refine gate_callee (f := 14) rfl ?_); refine goesL_ (some 40) rfl rfl Try.func14 (by kernel_rfl) rfl #[.slice Ao23 t447.length co23, .slice Ao24 t455.length co24] rfl (by (try simp only [List.map_toArray, List.map_cons, List.map_nil]); first | done | rfl | (simp only [List.length_drop, List.length_take]; rfl)) ?_; (with_reducible refine (slipstickref01_Same.calls k _ _ t447 _ _ t455 true _ ?side1 ?side2 ?side3 ?side4 A19.out).mono ?_); (case side1 => repeat (first | exact (Kd.V_reads' HO449.out).2.2 | (with_reducible refine Kd.C_alloc ?_ _) | (with_reducible refine Kd.C_drewN ?_ _) | (with_reducible refine Kd.C_drew ?_))); (case side2 => exact (Kd.V_reads' HO449.out).2.1); (case side3 => repeat (first | exact (Kd.R_reads' HO457.out).2.2 | (with_reducible refine Kd.C_alloc ?_ _) | (with_reducible refine Kd.C_drewN ?_ _) | (with_reducible refine Kd.C_drew ?_))); (case side4 => exact (Kd.R_reads' HO457.out).2.1); rintro e w' ⟨rfl, ⟨nd, rfl⟩⟩; refine ⟨_, rfl, ?_⟩))
          go_meet
          case rel => exact ⟨_, ((t450 != t454)), (by first | rfl | (simp; done) | (simp [*]; done) | (simp; omega)), H', ⟨by first | omega | exact Nat.le_refl _⟩, ⟨by (with_reducible repeat (first | apply Kd.V_alloc | apply Kd.V_drewN | apply Kd.V_drew)); exact Kd.V_mono HO442.out (fun _ hk => trivial)⟩, ⟨by (with_reducible repeat (first | apply Kd.V_alloc | apply Kd.V_drewN | apply Kd.V_drew)); exact Kd.V_mono HO445.out (fun _ hk => trivial)⟩, ⟨by repeat (first | (with_reducible first | exact HB.out | apply below_alloc | apply pw_below_drewN | apply below_drew1) | exact HB.out)⟩⟩
        · replace c20 := Bool.eq_false_iff.mpr c20
          subst c20
          have H1 : (slipsticklaw01_NatShifts.j0 k a1 t440 t443 t446 true) = some r := by rw [if_neg (show ¬ (false = true) by decide)] at H; exact H
          clear H
          have H := H1
          clear H1
          have H' := Aside0.mk H
          clear H
          obtain ⟨Ao25, co25, eo25⟩ := Kd.V_slice HO453.out
          subst eo25
          go_wp2_with (first | ((with_reducible refine gate_callee (f := 15) rfl ?_); refine goesL_ (some 39) rfl rfl Try.func15 (by kernel_rfl) rfl #[.slice Ao25 t451.length co25] rfl (by (try simp only [List.map_toArray, List.map_cons, List.map_nil]); first | done | rfl | (simp only [List.length_drop, List.length_take]; rfl)) ?_; (with_reducible refine (slipstickref01_Parts.calls k _ _ t451 t455 _ ?side1 ?side2 A18.out).mono ?_); (case side1 => repeat (first | exact (Kd.V_reads' HO453.out).2.2 | (with_reducible refine Kd.C_alloc ?_ _) | (with_reducible refine Kd.C_drewN ?_ _) | (with_reducible refine Kd.C_drew ?_))); (case side2 => exact (Kd.V_reads' HO453.out).2.1); rintro e w26 ⟨v456, rfl, ho0, hb⟩; refine ⟨_, rfl, ?_⟩; have n0_ := Aside0.mk (Kd.V_elder' (by (with_reducible repeat (first | apply Kd.V_alloc | apply Kd.V_drewN | apply Kd.V_drew)); exact HO442.out) (Kd.R_base ho0) hb); have n1_ := Aside0.mk (Kd.V_elder' (by (with_reducible repeat (first | apply Kd.V_alloc | apply Kd.V_drewN | apply Kd.V_drew)); exact HO445.out) (Kd.R_base ho0) hb); have n2_ := Aside0.mk (Kd.V_elder' (by (with_reducible repeat (first | apply Kd.V_alloc | apply Kd.V_drewN | apply Kd.V_drew)); exact HO449.out) (Kd.R_base ho0) hb); have n3_ := Aside0.mk (Kd.V_elder' (by (with_reducible repeat (first | apply Kd.V_alloc | apply Kd.V_drewN | apply Kd.V_drew)); exact HO453.out) (Kd.R_base ho0) hb); have n4_ := Aside0.mk (Kd.R_lower ho0 (below_size (by repeat (first | (with_reducible first | exact HB.out | apply below_alloc | apply pw_below_drewN | apply below_drew1) | exact HB.out)))); have n5_ := Aside0.mk (below_step (by repeat (first | (with_reducible first | exact HB.out | apply below_alloc | apply pw_below_drewN | apply below_drew1) | exact HB.out)) hb); clear HO442; clear HO445; clear HO449; clear HO453; clear HB; have HO442 := n0_; have HO445 := n1_; have HO449 := n2_; have HO453 := n3_; have HO457 := n4_; have HB := n5_; clear n0_ n1_ n2_ n3_ n4_ n5_; (try clear hb); (try clear hb2); (try clear hk); (try clear hi); (try clear ho0); obtain ⟨Ao27, co27, eo27⟩ := Kd.V_slice HO449.out; subst eo27; obtain ⟨Ao28, co28, eo28⟩ := Kd.R_slice HO457.out; subst eo28) | ((with_reducible refine gate_callee (f := 14) rfl ?_); refine goesL_ (some 40) rfl rfl Try.func14 (by kernel_rfl) rfl #[.slice Ao27 t447.length co27, .slice Ao28 t455.length co28] rfl (by (try simp only [List.map_toArray, List.map_cons, List.map_nil]); first | done | rfl | (simp only [List.length_drop, List.length_take]; rfl)) ?_; (with_reducible refine (slipstickref01_Same.calls k _ _ t447 _ _ t455 false _ ?side1 ?side2 ?side3 ?side4 A19.out).mono ?_); (case side1 => repeat (first | exact (Kd.V_reads' HO449.out).2.2 | (with_reducible refine Kd.C_alloc ?_ _) | (with_reducible refine Kd.C_drewN ?_ _) | (with_reducible refine Kd.C_drew ?_))); (case side2 => exact (Kd.V_reads' HO449.out).2.1); (case side3 => repeat (first | exact (Kd.R_reads' HO457.out).2.2 | (with_reducible refine Kd.C_alloc ?_ _) | (with_reducible refine Kd.C_drewN ?_ _) | (with_reducible refine Kd.C_drew ?_))); (case side4 => exact (Kd.R_reads' HO457.out).2.1); rintro e w' ⟨rfl, ⟨nd, rfl⟩⟩; refine ⟨_, rfl, ?_⟩))
          go_meet
          case rel => exact ⟨_, (true), (by first | rfl | (simp; done) | (simp [*]; done) | (simp; omega)), H', ⟨by first | omega | exact Nat.le_refl _⟩, ⟨by (with_reducible repeat (first | apply Kd.V_alloc | apply Kd.V_drewN | apply Kd.V_drew)); exact Kd.V_mono HO442.out (fun _ hk => trivial)⟩, ⟨by (with_reducible repeat (first | apply Kd.V_alloc | apply Kd.V_drewN | apply Kd.V_drew)); exact Kd.V_mono HO445.out (fun _ hk => trivial)⟩, ⟨by repeat (first | (with_reducible first | exact HB.out | apply below_alloc | apply pw_below_drewN | apply below_drew1) | exact HB.out)⟩⟩
      case rest =>
        clear HC11
        try clear c1
        try clear c2
        try clear p2
        try clear c3
        try clear c4
        try clear c5
        try clear c5b0
        try clear c5b1
        try clear c9
        try clear c10
        try clear c14
        try clear c15
        try clear c20
        obtain ⟨kq, x46_10, rfl, HA, HJ10, HO_5, HO_6, HB⟩ := hcut
        cases kq with
        | zero => exact absurd HA.out (by simp [slipsticklaw01_NatShifts.j0])
        | succ kj10 =>
          have H := HA.out
          clear HA
          simp only [slipsticklaw01_NatShifts.j0] at H
          by_cases c29 : x46_10 = true
          · subst c29
            have H1 : (none) = some r := by rw [if_pos rfl] at H; exact H
            clear H
            have H := H1
            clear H1
            exact absurd H (by simp)
          · replace c29 := Bool.eq_false_iff.mpr c29
            subst c29
            have H1 : (if a1 < 0 then (if t446 = 1 then (some ((t443.length : Int) == 0)) else (none)) else (if (t440.length : Int) > 0 then (slipsticklaw01_NatShifts.j1 kj10 a1 t440 t443 t446 (decide (a1 > (wrap64 (16384 - (t440.length : Int)))))) else (slipsticklaw01_NatShifts.j1 kj10 a1 t440 t443 t446 false))) = some r := by rw [if_neg (show ¬ (false = true) by decide)] at H; exact H
            clear H
            have H := H1
            clear H1
            by_cases c30 : a1 < 0
            · rw [if_pos c30] at H
              have c30b0 : decide (a1 < 0) = true := decide_eq_true c30
              clear c30
              by_cases c31 : t446 = 1
              · rw [if_pos c31] at H
                have c31b0 : (t446 == 1) = true := beq_iff_eq.mpr c31
                have c31b1 : (t446 != 1) = false := bne_eq_false_iff_eq.mpr c31
                clear c31
                obtain rfl := Option.some.inj H
                obtain ⟨Ao32, co32, eo32⟩ := Kd.V_slice HO_6.out
                subst eo32
                go_wp2
                go_ret
                exact ⟨by first | rfl | (simp [errW_none, errW_some] <;> rfl) | (simp [*, errW_none, errW_some] <;> rfl), by repeat (first | (with_reducible first | exact HB.out | apply below_alloc | apply pw_below_drewN | apply below_drew1) | exact HB.out)⟩
              · rw [if_neg c31] at H
                exact absurd H (by simp)
            · rw [if_neg c30] at H
              have c30b0 : decide (a1 < 0) = false := decide_eq_false c30
              clear c30
              have HC33 := Aside0.mk H
              clear H
              go_upto_region 13 with (fail)
              go_cut [65] (fun v65 wc => ∃ (kq : Nat) (x65_32 : Bool), v65 = .bool x65_32 ∧ Aside0 (slipsticklaw01_NatShifts.j1 kq a1 t440 t443 t446 x65_32 = some r) ∧ Aside0 (kq ≤ kj10) ∧ Aside0 (Kd.V Kd.bool 4 wc w.heap.size (fun _ => True) (.slice Ao16 t440.length co16) t440) ∧ Aside0 (Kd.V (Kd.int .u32) 60 wc w.heap.size (fun _ => True) v444 t443) ∧ Aside0 (Below w.heap.size w wc))
              case first =>
                have H := HC33.out
                clear HC33
                by_cases c34 : (t440.length : Int) > 0
                · rw [if_pos c34] at H
                  have c34b0 : decide (0 < (t440.length : Int)) = true := decide_eq_true c34
                  have c34b1 : decide (0 < t440.length) = true := decide_eq_true (by omega)
                  clear c34
                  (first | rw [c34b0] | (simp only [i64_w, i32_w]; rw [c34b0]) | skip)
                  have H' := Aside0.mk H
                  clear H
                  go_wp2
                  go_meet
                  case rel => exact ⟨_, (decide (a1 > (wrap64 (16384 - (t440.length : Int))))), (by first | rfl | (simp; done) | (simp [*]; done) | (simp; omega)), H', ⟨by have := HJ10.out; first | omega | exact Nat.le_refl _⟩, ⟨by (with_reducible repeat (first | apply Kd.V_alloc | apply Kd.V_drewN | apply Kd.V_drew)); exact HO_5.out⟩, ⟨by (with_reducible repeat (first | apply Kd.V_alloc | apply Kd.V_drewN | apply Kd.V_drew)); exact HO_6.out⟩, ⟨by repeat (first | (with_reducible first | exact HB.out | apply below_alloc | apply pw_below_drewN | apply below_drew1) | exact HB.out)⟩⟩
                · rw [if_neg c34] at H
                  have c34b0 : decide (0 < (t440.length : Int)) = false := decide_eq_false c34
                  have c34b1 : decide (0 < t440.length) = false := decide_eq_false (by omega)
                  clear c34
                  (first | rw [c34b0] | (simp only [i64_w, i32_w]; rw [c34b0]) | skip)
                  have H' := Aside0.mk H
                  clear H
                  go_wp2
                  go_meet
                  case rel => exact ⟨_, (false), (by first | rfl | (simp; done) | (simp [*]; done) | (simp; omega)), H', ⟨by have := HJ10.out; first | omega | exact Nat.le_refl _⟩, ⟨by (with_reducible repeat (first | apply Kd.V_alloc | apply Kd.V_drewN | apply Kd.V_drew)); exact HO_5.out⟩, ⟨by (with_reducible repeat (first | apply Kd.V_alloc | apply Kd.V_drewN | apply Kd.V_drew)); exact HO_6.out⟩, ⟨by repeat (first | (with_reducible first | exact HB.out | apply below_alloc | apply pw_below_drewN | apply below_drew1) | exact HB.out)⟩⟩
              case rest =>
                clear HC33
                try clear c1
                try clear c2
                try clear p2
                try clear c3
                try clear c4
                try clear c5
                try clear c5b0
                try clear c5b1
                try clear p6
                try clear c9
                try clear c10
                try clear c14
                try clear c15
                try clear c20
                try clear c29
                try clear c30
                try clear c30b0
                try clear c31
                try clear c31b0
                try clear c31b1
                try clear c32
                try clear c34
                try clear c34b0
                try clear c34b1
                try clear p2
                obtain ⟨kq, x65_32, rfl, HA, HJ32, HO_5, HO_6, HB⟩ := hcut
                cases kq with
                | zero => exact absurd HA.out (by simp [slipsticklaw01_NatShifts.j1])
                | succ kj32 =>
                  have H := HA.out
                  clear HA
                  simp only [slipsticklaw01_NatShifts.j1] at H
                  by_cases c35 : x65_32 = true
                  · subst c35
                    have H1 : (if t446 = 6 then (some ((t443.length : Int) == 0)) else (none)) = some r := by rw [if_pos rfl] at H; exact H
                    clear H
                    have H := H1
                    clear H1
                    by_cases c36 : t446 = 6
                    · rw [if_pos c36] at H
                      have c36b0 : (t446 == 6) = true := beq_iff_eq.mpr c36
                      have c36b1 : (t446 != 6) = false := bne_eq_false_iff_eq.mpr c36
                      clear c36
                      obtain rfl := Option.some.inj H
                      obtain ⟨Ao37, co37, eo37⟩ := Kd.V_slice HO_6.out
                      subst eo37
                      go_wp2
                      go_ret
                      exact ⟨by first | rfl | (simp [errW_none, errW_some] <;> rfl) | (simp [*, errW_none, errW_some] <;> rfl), by repeat (first | (with_reducible first | exact HB.out | apply below_alloc | apply pw_below_drewN | apply below_drew1) | exact HB.out)⟩
                    · rw [if_neg c36] at H
                      exact absurd H (by simp)
                  · replace c35 := Bool.eq_false_iff.mpr c35
                    subst c35
                    have H1 : (if t446 = 0 then (if (t440.length : Int) = 0 then (if (t443.length : Int) = 0 then (some true) else ((slipstickref01_Left.f t440 a1).bind fun t459 => ((slipstickref01_Parts.f kj32 t459).bind fun t462 => ((slipstickref01_Same.f kj32 t443 t462).bind fun t465 => (some t465))))) else ((slipstickref01_Left.f t440 a1).bind fun t466 => ((slipstickref01_Parts.f kj32 t466).bind fun t469 => ((slipstickref01_Same.f kj32 t443 t469).bind fun t472 => (some t472))))) else (none)) = some r := by rw [if_neg (show ¬ (false = true) by decide)] at H; exact H
                    clear H
                    have H := H1
                    clear H1
                    by_cases c38 : t446 = 0
                    · rw [if_pos c38] at H
                      have c38b0 : (t446 == 0) = true := beq_iff_eq.mpr c38
                      have c38b1 : (t446 != 0) = false := bne_eq_false_iff_eq.mpr c38
                      clear c38
                      by_cases c39 : (t440.length : Int) = 0
                      · rw [if_pos c39] at H
                        have c39b0 : ((t440.length : Int) == 0) = true := beq_iff_eq.mpr c39
                        have c39b1 : ((t440.length : Int) != 0) = false := bne_eq_false_iff_eq.mpr c39
                        clear c39
                        by_cases c40 : (t443.length : Int) = 0
                        · rw [if_pos c40] at H
                          have c40b0 : ((t443.length : Int) == 0) = true := beq_iff_eq.mpr c40
                          have c40b1 : ((t443.length : Int) != 0) = false := bne_eq_false_iff_eq.mpr c40
                          clear c40
                          obtain rfl := Option.some.inj H
                          obtain ⟨Ao41, co41, eo41⟩ := Kd.V_slice HO_6.out
                          subst eo41
                          go_wp2
                          go_ret
                          exact ⟨by first | rfl | (simp [errW_none, errW_some] <;> rfl) | (simp [*, errW_none, errW_some] <;> rfl), by repeat (first | (with_reducible first | exact HB.out | apply below_alloc | apply pw_below_drewN | apply below_drew1) | exact HB.out)⟩
                        · rw [if_neg c40] at H
                          have c40b0 : ((t443.length : Int) == 0) = false := beq_eq_false_iff_ne.mpr c40
                          have c40b1 : ((t443.length : Int) != 0) = true := bne_iff_ne.mpr c40
                          have c40b2 : ¬ (t443 = []) := fun h_ => c40 (by rw [h_]; rfl)
                          replace H := Option.bind_eq_some_iff.mp H
                          obtain ⟨t459, A420, H⟩ := H
                          replace H : ((slipstickref01_Parts.f kj32 t459).bind fun t462 => ((slipstickref01_Same.f kj32 t443 t462).bind fun t465 => (some t465))) = some r := H
                          have A42 := Aside0.mk A420
                          clear A420
                          replace H := Option.bind_eq_some_iff.mp H
                          obtain ⟨t462, A430, H⟩ := H
                          replace H : ((slipstickref01_Same.f kj32 t443 t462).bind fun t465 => (some t465)) = some r := H
                          have A43 := Aside0.mk A430
                          clear A430
                          replace H := Option.bind_eq_some_iff.mp H
                          obtain ⟨t465, A440, H⟩ := H
                          replace H : (some t465) = some r := H
                          have A44 := Aside0.mk A440
                          clear A440
                          obtain rfl := Option.some.inj H
                          obtain ⟨Ao45, co45, eo45⟩ := Kd.V_slice HO_6.out
                          subst eo45
                          go_wp2_with (first | (go_at_call 33; (with_reducible refine (slipstickref01_Left.calls (fun k_ => True) _ _ t440 a1 t459 _ ?side1 A42.out).mono ?_); (case side1 => exact HO_5.out); rintro e w46 ⟨v460, rfl, ho0, hb⟩; have n0_ := Aside0.mk (Kd.V_below (by (with_reducible repeat (first | apply Kd.V_alloc | apply Kd.V_drewN | apply Kd.V_drew)); exact HO_5.out) hb); have n1_ := Aside0.mk (Kd.V_below (by (with_reducible repeat (first | apply Kd.V_alloc | apply Kd.V_drewN | apply Kd.V_drew)); exact HO_6.out) hb); have n2_ := Aside0.mk (Kd.V_lower (Kd.V_mono (ok' := fun k_ => True) ho0 (fun k_ hk_ => trivial)) (below_size (by repeat (first | (with_reducible first | exact HB.out | apply below_alloc | apply pw_below_drewN | apply below_drew1) | exact HB.out)))); have n3_ := Aside0.mk (below_step (by repeat (first | (with_reducible first | exact HB.out | apply below_alloc | apply pw_below_drewN | apply below_drew1) | exact HB.out)) hb); clear HO_5; clear HO_6; clear HB; have HO_5 := n0_; have HO_6 := n1_; have HO461 := n2_; have HB := n3_; clear n0_ n1_ n2_ n3_; (try clear hb); (try clear hb2); (try clear hk); (try clear hi); (try clear ho0); obtain ⟨Ao47, co47, eo47⟩ := Kd.V_slice HO461.out; subst eo47) | (go_at_call 15; (with_reducible refine (slipstickref01_Parts.calls kj32 _ _ t459 t462 _ ?side1 ?side2 A43.out).mono ?_); (case side1 => repeat (first | exact (Kd.V_reads' HO461.out).2.2 | (with_reducible refine Kd.C_alloc ?_ _) | (with_reducible refine Kd.C_drewN ?_ _) | (with_reducible refine Kd.C_drew ?_))); (case side2 => exact (Kd.V_reads' HO461.out).2.1); rintro e w48 ⟨v463, rfl, ho0, hb⟩; have n0_ := Aside0.mk (Kd.V_elder' (by (with_reducible repeat (first | apply Kd.V_alloc | apply Kd.V_drewN | apply Kd.V_drew)); exact HO_5.out) (Kd.R_base ho0) hb); have n1_ := Aside0.mk (Kd.V_elder' (by (with_reducible repeat (first | apply Kd.V_alloc | apply Kd.V_drewN | apply Kd.V_drew)); exact HO_6.out) (Kd.R_base ho0) hb); have n2_ := Aside0.mk (Kd.V_elder' (by (with_reducible repeat (first | apply Kd.V_alloc | apply Kd.V_drewN | apply Kd.V_drew)); exact HO461.out) (Kd.R_base ho0) hb); have n3_ := Aside0.mk (Kd.R_lower ho0 (below_size (by repeat (first | (with_reducible first | exact HB.out | apply below_alloc | apply pw_below_drewN | apply below_drew1) | exact HB.out)))); have n4_ := Aside0.mk (below_step (by repeat (first | (with_reducible first | exact HB.out | apply below_alloc | apply pw_below_drewN | apply below_drew1) | exact HB.out)) hb); clear HO_5; clear HO_6; clear HO461; clear HB; have HO_5 := n0_; have HO_6 := n1_; have HO461 := n2_; have HO464 := n3_; have HB := n4_; clear n0_ n1_ n2_ n3_ n4_; (try clear hb); (try clear hb2); (try clear hk); (try clear hi); (try clear ho0); obtain ⟨Ao49, co49, eo49⟩ := Kd.R_slice HO464.out; subst eo49) | (go_at_call 14; (with_reducible refine (slipstickref01_Same.calls kj32 _ _ t443 _ _ t462 t465 _ ?side1 ?side2 ?side3 ?side4 A44.out).mono ?_); (case side1 => repeat (first | exact (Kd.V_reads' HO_6.out).2.2 | (with_reducible refine Kd.C_alloc ?_ _) | (with_reducible refine Kd.C_drewN ?_ _) | (with_reducible refine Kd.C_drew ?_))); (case side2 => exact (Kd.V_reads' HO_6.out).2.1); (case side3 => repeat (first | exact (Kd.R_reads' HO464.out).2.2 | (with_reducible refine Kd.C_alloc ?_ _) | (with_reducible refine Kd.C_drewN ?_ _) | (with_reducible refine Kd.C_drew ?_))); (case side4 => exact (Kd.R_reads' HO464.out).2.1); rintro e w' ⟨rfl, ⟨nd, rfl⟩⟩))
                          go_ret
                          exact ⟨by first | rfl | (simp [errW_none, errW_some] <;> rfl) | (simp [*, errW_none, errW_some] <;> rfl), by repeat (first | (with_reducible first | exact HB.out | apply below_alloc | apply pw_below_drewN | apply below_drew1) | exact HB.out)⟩
                      · rw [if_neg c39] at H
                        have c39b0 : ((t440.length : Int) == 0) = false := beq_eq_false_iff_ne.mpr c39
                        have c39b1 : ((t440.length : Int) != 0) = true := bne_iff_ne.mpr c39
                        have c39b2 : ¬ (t440 = []) := fun h_ => c39 (by rw [h_]; rfl)
                        replace H := Option.bind_eq_some_iff.mp H
                        obtain ⟨t466, A500, H⟩ := H
                        replace H : ((slipstickref01_Parts.f kj32 t466).bind fun t469 => ((slipstickref01_Same.f kj32 t443 t469).bind fun t472 => (some t472))) = some r := H
                        have A50 := Aside0.mk A500
                        clear A500
                        replace H := Option.bind_eq_some_iff.mp H
                        obtain ⟨t469, A510, H⟩ := H
                        replace H : ((slipstickref01_Same.f kj32 t443 t469).bind fun t472 => (some t472)) = some r := H
                        have A51 := Aside0.mk A510
                        clear A510
                        replace H := Option.bind_eq_some_iff.mp H
                        obtain ⟨t472, A520, H⟩ := H
                        replace H : (some t472) = some r := H
                        have A52 := Aside0.mk A520
                        clear A520
                        obtain rfl := Option.some.inj H
                        go_wp2_with (first | (go_at_call 33; (with_reducible refine (slipstickref01_Left.calls (fun k_ => True) _ _ t440 a1 t466 _ ?side1 A50.out).mono ?_); (case side1 => exact HO_5.out); rintro e w53 ⟨v467, rfl, ho0, hb⟩; have n0_ := Aside0.mk (Kd.V_below (by (with_reducible repeat (first | apply Kd.V_alloc | apply Kd.V_drewN | apply Kd.V_drew)); exact HO_5.out) hb); have n1_ := Aside0.mk (Kd.V_below (by (with_reducible repeat (first | apply Kd.V_alloc | apply Kd.V_drewN | apply Kd.V_drew)); exact HO_6.out) hb); have n2_ := Aside0.mk (Kd.V_lower (Kd.V_mono (ok' := fun k_ => True) ho0 (fun k_ hk_ => trivial)) (below_size (by repeat (first | (with_reducible first | exact HB.out | apply below_alloc | apply pw_below_drewN | apply below_drew1) | exact HB.out)))); have n3_ := Aside0.mk (below_step (by repeat (first | (with_reducible first | exact HB.out | apply below_alloc | apply pw_below_drewN | apply below_drew1) | exact HB.out)) hb); clear HO_5; clear HO_6; clear HB; have HO_5 := n0_; have HO_6 := n1_; have HO468 := n2_; have HB := n3_; clear n0_ n1_ n2_ n3_; (try clear hb); (try clear hb2); (try clear hk); (try clear hi); (try clear ho0); obtain ⟨Ao54, co54, eo54⟩ := Kd.V_slice HO468.out; subst eo54) | (go_at_call 15; (with_reducible refine (slipstickref01_Parts.calls kj32 _ _ t466 t469 _ ?side1 ?side2 A51.out).mono ?_); (case side1 => repeat (first | exact (Kd.V_reads' HO468.out).2.2 | (with_reducible refine Kd.C_alloc ?_ _) | (with_reducible refine Kd.C_drewN ?_ _) | (with_reducible refine Kd.C_drew ?_))); (case side2 => exact (Kd.V_reads' HO468.out).2.1); rintro e w55 ⟨v470, rfl, ho0, hb⟩; have n0_ := Aside0.mk (Kd.V_elder' (by (with_reducible repeat (first | apply Kd.V_alloc | apply Kd.V_drewN | apply Kd.V_drew)); exact HO_5.out) (Kd.R_base ho0) hb); have n1_ := Aside0.mk (Kd.V_elder' (by (with_reducible repeat (first | apply Kd.V_alloc | apply Kd.V_drewN | apply Kd.V_drew)); exact HO_6.out) (Kd.R_base ho0) hb); have n2_ := Aside0.mk (Kd.V_elder' (by (with_reducible repeat (first | apply Kd.V_alloc | apply Kd.V_drewN | apply Kd.V_drew)); exact HO468.out) (Kd.R_base ho0) hb); have n3_ := Aside0.mk (Kd.R_lower ho0 (below_size (by repeat (first | (with_reducible first | exact HB.out | apply below_alloc | apply pw_below_drewN | apply below_drew1) | exact HB.out)))); have n4_ := Aside0.mk (below_step (by repeat (first | (with_reducible first | exact HB.out | apply below_alloc | apply pw_below_drewN | apply below_drew1) | exact HB.out)) hb); clear HO_5; clear HO_6; clear HO468; clear HB; have HO_5 := n0_; have HO_6 := n1_; have HO468 := n2_; have HO471 := n3_; have HB := n4_; clear n0_ n1_ n2_ n3_ n4_; (try clear hb); (try clear hb2); (try clear hk); (try clear hi); (try clear ho0); obtain ⟨Ao56, co56, eo56⟩ := Kd.V_slice HO_6.out; subst eo56; obtain ⟨Ao57, co57, eo57⟩ := Kd.R_slice HO471.out; subst eo57) | (go_at_call 14; (with_reducible refine (slipstickref01_Same.calls kj32 _ _ t443 _ _ t469 t472 _ ?side1 ?side2 ?side3 ?side4 A52.out).mono ?_); (case side1 => repeat (first | exact (Kd.V_reads' HO_6.out).2.2 | (with_reducible refine Kd.C_alloc ?_ _) | (with_reducible refine Kd.C_drewN ?_ _) | (with_reducible refine Kd.C_drew ?_))); (case side2 => exact (Kd.V_reads' HO_6.out).2.1); (case side3 => repeat (first | exact (Kd.R_reads' HO471.out).2.2 | (with_reducible refine Kd.C_alloc ?_ _) | (with_reducible refine Kd.C_drewN ?_ _) | (with_reducible refine Kd.C_drew ?_))); (case side4 => exact (Kd.R_reads' HO471.out).2.1); rintro e w' ⟨rfl, ⟨nd, rfl⟩⟩))
                        go_ret
                        exact ⟨by first | rfl | (simp [errW_none, errW_some] <;> rfl) | (simp [*, errW_none, errW_some] <;> rfl), by repeat (first | (with_reducible first | exact HB.out | apply below_alloc | apply pw_below_drewN | apply below_drew1) | exact HB.out)⟩
                    · rw [if_neg c38] at H
                      exact absurd H (by simp)
  · replace c4 := Bool.eq_false_iff.mpr c4
    subst c4
    have H1 : (none) = some r := by rw [if_neg (show ¬ (false = true) by decide)] at H; exact H
    clear H
    have H := H1
    clear H1
    exact absurd H (by simp)

/-- THE ONE PURE STATEMENT of slipsticklaw01_NatShifts: yours. -/
def slipsticklaw01_NatShifts.Pure : Prop := ∀ (l0 : List Int) (a1 : Int), l0.length ≤ maxLen → l0.length * 4 ≤ 140737488351232 → (∀ x ∈ l0, (Lit.int .u32 x).wf = true) → (Lit.int .i64 a1).wf = true → ∃ k, slipsticklaw01_NatShifts.f k l0 a1 = some true
theorem slipsticklaw01_NatShifts.walk (P : slipsticklaw01_NatShifts.Pure) (a0 : Option Addr) (len0 cap0 : Nat) (z0 : List Int) (a1 : Int) (w : World) (w0 : (a0 = none ∧ len0 = 0 ∧ cap0 = 0 ∧ z0 = []) ∨ ∃ x, a0 = some x ∧ len0 ≤ cap0 ∧ cap0 ≤ maxLen ∧ z0.length = cap0 ∧ (∀ i, i < z0.length → w.cell? (x.add i) = some (.int .u32 (z0.getD i 0))) ∧ ∀ n ∈ z0, (Lit.int .u32 n).wf = true) (y0 : len0 * 4 ≤ 140737488351232) (w1 : (Lit.int .i64 a1).wf = true) :
    Calls Try.prog 5 #[.slice a0 len0 cap0, .int .i64 a1] w fun e w' => e = .returned (.bool true) ∧ Below w.heap.size w w' := by
  obtain ⟨l0, rfl, hr0, hm0, hw0, hc0⟩ := ReadsInt.ofRowC w0
  obtain ⟨k, h⟩ := P l0 a1 hm0 y0 hw0 w1
  refine (slipsticklaw01_NatShifts.calls k _ _ l0 a1 true w (Kd.C_of_reads (d := (0 : Int)) (h1 := fun _ => rfl) hr0) hc0 h).mono ?_
  rintro e w' ⟨rfl, hd⟩
  exact ⟨rfl, hd⟩

end Go.Proofs.Ytgccgmpfcnhbgaa.P
