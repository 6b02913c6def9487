-- made by a changed copy of the kit's print (wip/hack.py)
import Derived.Test.YtlaffgojgfdlnaaGreatPx0
import Derived.Test.YtlaffgojgfdlnaaGreatPx4
import Derived.Test.YtlaffgojgfdlnaaGreatPx5
namespace Go.Proofs.YtlaffgojgfdlnaaGreat.P
open Go.RowKit Go.Proofs.YtlaffgojgfdlnaaGreatW.PrintWords Go.Proofs.YtlaffgojgfdlnaaGreatW.PrintLast Go.Proofs.YtlaffgojgfdlnaaGreatW.PrintMore
attribute [local go_sem] max2_int min2_int max_two min_two max_three min_three max_four min_four   -- for this text's walks alone
set_option linter.unusedVariables false
set_option linter.unusedSimpArgs false

/-! ### slipstickref01_Cmp: function 83 -/
mutual
def slipstickref01_Cmp.l0 : Nat → List Bool → List Bool → Int → Option (Int)
  | 0, _, _, _ => none
  | k + 1, x0, x1, x5 => if x5 ≥ 0 then ((slipstickref01_Bit.f x0 x5).bind fun t241 => ((slipstickref01_Bit.f x1 x5).bind fun t242 => (if t241 = true then (slipstickref01_Cmp.j1 k x0 x1 x5 t241 t242 (!t242)) else (slipstickref01_Cmp.j1 k x0 x1 x5 t241 t242 false)))) else (some 0)
def slipstickref01_Cmp.j1 : Nat → List Bool → List Bool → Int → Bool → Bool → Bool → Option (Int)
  | 0, _, _, _, _, _, _ => none
  | k + 1, x0, x1, x5, x6, x7, x28 => if x28 = true then (some 1) else (if x7 = true then (if x6 = true then (slipstickref01_Cmp.l0 k x0 x1 (wrap64 (x5 - 1))) else (some (-1))) else (slipstickref01_Cmp.l0 k x0 x1 (wrap64 (x5 - 1))))
end
def slipstickref01_Cmp.f (k : Nat) (l0 : List Bool) (l1 : List Bool) : Option (Int) := slipstickref01_Cmp.l0 k l0 l1 (wrap64 ((mx (l0.length : Int) (l1.length : Int)) - 1))
theorem slipstickref01_Cmp.mono_l : ∀ k, (∀ y0 y1 y2, LeO (slipstickref01_Cmp.l0 k y0 y1 y2) (slipstickref01_Cmp.l0 (k + 1) y0 y1 y2)) ∧ (∀ y0 y1 y2 y3 y4 y5, LeO (slipstickref01_Cmp.j1 k y0 y1 y2 y3 y4 y5) (slipstickref01_Cmp.j1 (k + 1) y0 y1 y2 y3 y4 y5))
  | 0 => ⟨fun _ _ _ r h => by simp [slipstickref01_Cmp.l0] at h, fun _ _ _ _ _ _ r h => by simp [slipstickref01_Cmp.j1] at h⟩
  | k + 1 => by
    obtain ⟨ih0, ih1⟩ := slipstickref01_Cmp.mono_l k
    refine ⟨?_, ?_⟩
    · intro y0 y1 y2
      unfold slipstickref01_Cmp.l0
      repeat' first
      | (with_reducible exact ih0 _ _ _)
      | (with_reducible exact ih1 _ _ _ _ _ _)
      | (with_reducible exact LeO.refl _)
      | (with_reducible exact LeO.none _)
      | (with_reducible refine LeO.ite ?_ ?_)
      | (with_reducible refine LeO.bind ?_ (fun _ => ?_))
      | exact ih0 _ _ _
      | exact ih1 _ _ _ _ _ _
      | exact LeO.none _
      | refine LeO.ite ?_ ?_
      | refine LeO.bind ?_ (fun _ => ?_)
    · intro y0 y1 y2 y3 y4 y5
      unfold slipstickref01_Cmp.j1
      repeat' first
      | (with_reducible exact ih0 _ _ _)
      | (with_reducible exact ih1 _ _ _ _ _ _)
      | (with_reducible exact LeO.refl _)
      | (with_reducible exact LeO.none _)
      | (with_reducible refine LeO.ite ?_ ?_)
      | (with_reducible refine LeO.bind ?_ (fun _ => ?_))
      | exact ih0 _ _ _
      | exact ih1 _ _ _ _ _ _
      | exact LeO.none _
      | refine LeO.ite ?_ ?_
      | refine LeO.bind ?_ (fun _ => ?_)
theorem slipstickref01_Cmp.mono : ∀ a0 a1 k, LeO (slipstickref01_Cmp.f k a0 a1) (slipstickref01_Cmp.f (k + 1) a0 a1) := by
  intro a0 a1 k
  obtain ⟨ih0, ih1⟩ := slipstickref01_Cmp.mono_l k
  unfold slipstickref01_Cmp.f
  repeat' first
      | (with_reducible exact ih0 _ _ _)
      | (with_reducible exact ih1 _ _ _ _ _ _)
      | (with_reducible exact LeO.refl _)
      | (with_reducible exact LeO.none _)
      | (with_reducible refine LeO.ite ?_ ?_)
      | (with_reducible refine LeO.bind ?_ (fun _ => ?_))
      | exact ih0 _ _ _
      | exact ih1 _ _ _ _ _ _
      | exact LeO.none _
      | refine LeO.ite ?_ ?_
      | refine LeO.bind ?_ (fun _ => ?_)
set_option maxHeartbeats 8000000 in
set_option maxRecDepth 100000 in
theorem slipstickref01_Cmp.calls (k : Nat) (A0 : Option Addr) (c0 : Nat) (l0 : List Bool) (A1 : Option Addr) (c1 : Nat) (l1 : List Bool) (r : Int) (w : World) (hr0 : Kd.C Kd.bool w A0 l0.length l0) (hc0 : l0.length ≤ c0) (hr1 : Kd.C Kd.bool w A1 l1.length l1) (hc1 : l1.length ≤ c1) (h : slipstickref01_Cmp.f k l0 l1 = some r) :
    Calls Tryz.prog 83 #[.slice A0 l0.length c0, .slice A1 l1.length c1] w fun e w' => e = .returned (.int .i64 r) ∧ Below w.heap.size w w' := by
  have HR0 := Aside0.mk hr0
  have HC0 := Aside0.mk hc0
  clear hr0 hc0
  have HR1 := Aside0.mk hr1
  have HC1 := Aside0.mk hc1
  clear hr1 hc1
  have HB := Aside0.mk (Below.refl w.heap.size w)
  have H : (slipstickref01_Cmp.l0 k l0 l1 (wrap64 ((mx (l0.length : Int) (l1.length : Int)) - 1))) = some r := h
  clear h
  obtain ⟨ji3, hji3⟩ : ∃ j_ : Int, (mx (l0.length : Int) (l1.length : Int)) = j_ := ⟨_, rfl⟩
  replace H : (slipstickref01_Cmp.l0 k l0 l1 (wrap64 ((ji3) - 1))) = some r := by first | (rw [hji3] at H; exact H) | (simp only [hji3] at H ⊢; exact H)
  (try (have hji3l : 0 ≤ ji3 := by (rw [← hji3]; unfold mx; (repeat' split) <;> omega)))
  (try (have hji3m : 0 ≤ ji3 := by omega))
  have hji3_ : (if (l0.length : Int) < (l1.length : Int) then (l1.length : Int) else (l0.length : Int)) = ji3 := hji3
  (try (have hji3n : (if l0.length < l1.length then (l1.length : Int) else (l0.length : Int)) = ji3 := by have h_ := hji3_; simp only [Int.ofNat_lt] at h_; exact h_))
  have H' := Aside0.mk H
  clear H
  go_enter Tryz.func83, Tryz.ntmps83
  go_wp2
  go_loopg [5] k (fun kq v5 w' => ∃ (x5_1 : Int), v5 = .int .i64 x5_1 ∧ Aside0 (slipstickref01_Cmp.l0 kq l0 l1 x5_1 = some r) ∧ Aside0 (kq ≤ k) ∧ Aside0 (Below w.heap.size w w'))
  case atStart => exact ⟨(wrap64 ((ji3) - 1)), (by first | rfl | (simp; done) | (simp only [← hji3] <;> (first | rfl | simp)) | (simp [*]; done) | (simp; omega)), H', ⟨Nat.le_refl _⟩, ⟨by repeat (first | (with_reducible first | exact HB.out | apply below_alloc | apply pw_below_drewN | apply below_drew1) | exact HB.out)⟩⟩
  case round =>
    clear H'
    try clear c1
    try clear p2
    obtain ⟨x5_1, rfl, HA, HK1, HB⟩ := hrel
    cases gk with
    | zero => exact absurd HA.out (by simp [slipstickref01_Cmp.l0])
    | succ k1 =>
      have H := HA.out
      clear HA
      simp only [slipstickref01_Cmp.l0] at H
      by_cases c4 : x5_1 ≥ 0
      · rw [if_pos c4] at H
        have c4b0 : decide (0 ≤ x5_1) = true := decide_eq_true c4
        clear c4
        replace H := Option.bind_eq_some_iff.mp H
        obtain ⟨t241, A50, H⟩ := H
        replace H : ((slipstickref01_Bit.f l1 x5_1).bind fun t242 => (if t241 = true then (slipstickref01_Cmp.j1 k1 l0 l1 x5_1 t241 t242 (!t242)) else (slipstickref01_Cmp.j1 k1 l0 l1 x5_1 t241 t242 false))) = some r := H
        have A5 := Aside0.mk A50
        clear A50
        replace H := Option.bind_eq_some_iff.mp H
        obtain ⟨t242, A60, H⟩ := H
        replace H : (if t241 = true then (slipstickref01_Cmp.j1 k1 l0 l1 x5_1 t241 t242 (!t242)) else (slipstickref01_Cmp.j1 k1 l0 l1 x5_1 t241 t242 false)) = some r := H
        have A6 := Aside0.mk A60
        clear A60
        have HC7 := Aside0.mk H
        clear H
        go_upto_region 6 with (first | ((with_reducible refine gate_callee (f := 106) rfl ?_); refine goesL_ (some 20) rfl rfl Tryz.func106 (by kernel_rfl) rfl #[.slice A0 l0.length c0, .int .i64 x5_1] rfl (by (try simp only [List.map_toArray, List.map_cons, List.map_nil]); first | done | rfl | (simp only [List.length_drop, List.length_take]; rfl)) ?_; (with_reducible refine (slipstickref01_Bit.calls _ _ l0 x5_1 t241 _ ?side1 ?side2 A5.out).mono ?_); (case side1 => repeat (first | exact (Kd.C_below HR0.out HB.out) | (with_reducible refine Kd.C_alloc ?_ _) | (with_reducible refine Kd.C_drewN ?_ _) | (with_reducible refine Kd.C_drew ?_))); (case side2 => exact HC0.out); rintro e w' ⟨rfl, ⟨nd, rfl⟩⟩; refine ⟨_, rfl, ?_⟩) | ((with_reducible refine gate_callee (f := 106) rfl ?_); refine goesL_ (some 23) rfl rfl Tryz.func106 (by kernel_rfl) rfl #[.slice A1 l1.length c1, .int .i64 x5_1] rfl (by (try simp only [List.map_toArray, List.map_cons, List.map_nil]); first | done | rfl | (simp only [List.length_drop, List.length_take]; rfl)) ?_; (with_reducible refine (slipstickref01_Bit.calls _ _ l1 x5_1 t242 _ ?side1 ?side2 A6.out).mono ?_); (case side1 => repeat (first | exact (Kd.C_below HR1.out (by repeat (first | (with_reducible first | exact HB.out | apply below_alloc | apply pw_below_drewN | apply below_drew1) | exact HB.out))) | (with_reducible refine Kd.C_alloc ?_ _) | (with_reducible refine Kd.C_drewN ?_ _) | (with_reducible refine Kd.C_drew ?_))); (case side2 => exact HC1.out); rintro e w' ⟨rfl, ⟨nd, rfl⟩⟩; refine ⟨_, rfl, ?_⟩))
        (try simp only [Act.put, List.setIfInBounds_toArray, List.set_cons_zero, List.set_cons_succ])
        go_cut [28] (fun v28 wc => ∃ (kq : Nat) (x28_6 : Bool), v28 = .bool x28_6 ∧ Aside0 (slipstickref01_Cmp.j1 kq l0 l1 x5_1 t241 t242 x28_6 = some r) ∧ Aside0 (kq ≤ k1) ∧ Aside0 (Below w.heap.size w wc))
        case first =>
          have H := HC7.out
          clear HC7
          by_cases c8 : t241 = true
          · subst c8
            have H1 : (slipstickref01_Cmp.j1 k1 l0 l1 x5_1 true t242 (!t242)) = some r := by rw [if_pos rfl] at H; exact H
            clear H
            have H := H1
            clear H1
            have H' := Aside0.mk H
            clear H
            go_wp2
            go_meet
            case rel => exact ⟨_, (!t242), (by first | rfl | (simp; done) | (simp [*]; done) | (simp; omega)), H', ⟨by have := HK1.out; first | omega | exact Nat.le_refl _⟩, ⟨by repeat (first | (with_reducible first | exact HB.out | apply below_alloc | apply pw_below_drewN | apply below_drew1) | exact HB.out)⟩⟩
          · replace c8 := Bool.eq_false_iff.mpr c8
            subst c8
            have H1 : (slipstickref01_Cmp.j1 k1 l0 l1 x5_1 false t242 false) = some r := by rw [if_neg (show ¬ (false = true) by decide)] at H; exact H
            clear H
            have H := H1
            clear H1
            have H' := Aside0.mk H
            clear H
            go_wp2
            go_meet
            case rel => exact ⟨_, (false), (by first | rfl | (simp; done) | (simp [*]; done) | (simp; omega)), H', ⟨by have := HK1.out; first | omega | exact Nat.le_refl _⟩, ⟨by repeat (first | (with_reducible first | exact HB.out | apply below_alloc | apply pw_below_drewN | apply below_drew1) | exact HB.out)⟩⟩
        case rest =>
          clear HC7
          try clear c1
          try clear p2
          try clear c4
          try clear c4b0
          try clear p6
          try clear c8
          try clear p2
          obtain ⟨kq, x28_6, rfl, HA, HJ6, HB⟩ := hcut
          cases kq with
          | zero => exact absurd HA.out (by simp [slipstickref01_Cmp.j1])
          | succ kj6 =>
            have H := HA.out
            clear HA
            simp only [slipstickref01_Cmp.j1] at H
            by_cases c9 : x28_6 = true
            · subst c9
              have H1 : (some 1) = some r := by rw [if_pos rfl] at H; exact H
              clear H
              have H := H1
              clear H1
              obtain rfl := Option.some.inj H
              go_wp2
              go_ret
              exact ⟨by first | rfl | (simp [errW_none, errW_some] <;> rfl) | (simp only [← hji3]; first | rfl | (simp [errW_none, errW_some] <;> rfl)) | (simp [*, errW_none, errW_some] <;> rfl), by repeat (first | (with_reducible first | exact HB.out | apply below_alloc | apply pw_below_drewN | apply below_drew1) | exact HB.out)⟩
            · replace c9 := Bool.eq_false_iff.mpr c9
              subst c9
              have H1 : (if t242 = true then (if t241 = true then (slipstickref01_Cmp.l0 kj6 l0 l1 (wrap64 (x5_1 - 1))) else (some (-1))) else (slipstickref01_Cmp.l0 kj6 l0 l1 (wrap64 (x5_1 - 1)))) = some r := by rw [if_neg (show ¬ (false = true) by decide)] at H; exact H
              clear H
              have H := H1
              clear H1
              by_cases c10 : t242 = true
              · subst c10
                have H1 : (if t241 = true then (slipstickref01_Cmp.l0 kj6 l0 l1 (wrap64 (x5_1 - 1))) else (some (-1))) = some r := by rw [if_pos rfl] at H; exact H
                clear H
                have H := H1
                clear H1
                by_cases c11 : t241 = true
                · subst c11
                  have H1 : (slipstickref01_Cmp.l0 kj6 l0 l1 (wrap64 (x5_1 - 1))) = some r := by rw [if_pos rfl] at H; exact H
                  clear H
                  have H := H1
                  clear H1
                  have H' := Aside0.mk H
                  clear H
                  go_wp2
                  go_roundg kj6
                  case measure => have := HK1.out; have := HJ6.out; omega
                  case rel => exact ⟨(wrap64 (x5_1 - 1)), (by first | rfl | (simp; done) | (simp [*]; done) | (simp; omega)), H', ⟨by have := HK1.out; have := HJ6.out; omega⟩, ⟨by repeat (first | (with_reducible first | exact HB.out | apply below_alloc | apply pw_below_drewN | apply below_drew1) | exact HB.out)⟩⟩
                · replace c11 := Bool.eq_false_iff.mpr c11
                  subst c11
                  have H1 : (some (-1)) = some r := by rw [if_neg (show ¬ (false = true) by decide)] at H; exact H
                  clear H
                  have H := H1
                  clear H1
                  obtain rfl := Option.some.inj H
                  go_wp2
                  go_ret
                  exact ⟨by first | rfl | (simp [errW_none, errW_some] <;> rfl) | (simp only [← hji3]; first | rfl | (simp [errW_none, errW_some] <;> rfl)) | (simp [*, errW_none, errW_some] <;> rfl), by repeat (first | (with_reducible first | exact HB.out | apply below_alloc | apply pw_below_drewN | apply below_drew1) | exact HB.out)⟩
              · replace c10 := Bool.eq_false_iff.mpr c10
                subst c10
                have H1 : (slipstickref01_Cmp.l0 kj6 l0 l1 (wrap64 (x5_1 - 1))) = some r := by rw [if_neg (show ¬ (false = true) by decide)] at H; exact H
                clear H
                have H := H1
                clear H1
                have H' := Aside0.mk H
                clear H
                go_wp2
                go_roundg kj6
                case measure => have := HK1.out; have := HJ6.out; omega
                case rel => exact ⟨(wrap64 (x5_1 - 1)), (by first | rfl | (simp; done) | (simp [*]; done) | (simp; omega)), H', ⟨by have := HK1.out; have := HJ6.out; omega⟩, ⟨by repeat (first | (with_reducible first | exact HB.out | apply below_alloc | apply pw_below_drewN | apply below_drew1) | exact HB.out)⟩⟩
      · rw [if_neg c4] at H
        have c4b0 : decide (0 ≤ x5_1) = false := decide_eq_false c4
        clear c4
        obtain rfl := Option.some.inj H
        go_wp2
        go_ret
        exact ⟨by first | rfl | (simp [errW_none, errW_some] <;> rfl) | (simp only [← hji3]; first | rfl | (simp [errW_none, errW_some] <;> rfl)) | (simp [*, errW_none, errW_some] <;> rfl), by repeat (first | (with_reducible first | exact HB.out | apply below_alloc | apply pw_below_drewN | apply below_drew1) | exact HB.out)⟩

/-! ### slipstickref01_Sub: function 84 -/
def slipstickref01_Sub.l0 : Nat → List Bool → List Bool → List Bool → Bool → Int → Option (List Bool)
  | 0, _, _, _, _, _ => none
  | k + 1, x0, x1, x5, x6, x7 => if x7 < (x0.length : Int) then (if 0 ≤ x7 then ((slipstickref01_Bit.f x1 x7).bind fun t247 => (if x5.length < 140737488355328 then ((some (x5 ++ [(((rdOf false x0 x7) != t247) != x6)] : List Bool)).bind fun y248 => (if rdOf false x0 x7 = true then (if t247 = true then (slipstickref01_Sub.l0 k x0 x1 y248 x6 (wrap64 (x7 + 1))) else (slipstickref01_Sub.l0 k x0 x1 y248 false (wrap64 (x7 + 1)))) else (if t247 = true then (slipstickref01_Sub.l0 k x0 x1 y248 true (wrap64 (x7 + 1))) else (if x6 = true then (slipstickref01_Sub.l0 k x0 x1 y248 true (wrap64 (x7 + 1))) else (slipstickref01_Sub.l0 k x0 x1 y248 false (wrap64 (x7 + 1))))))) else (none))) else (none)) else ((slipstickref01_cut.f k x5).bind fun t251 => (some t251))
def slipstickref01_Sub.f (k : Nat) (l0 : List Bool) (l1 : List Bool) : Option (List Bool) := slipstickref01_Sub.l0 k l0 l1 (([] : List Bool)) false 0
theorem slipstickref01_Sub.mono_l : ∀ k, (∀ y0 y1 y2 y3 y4, LeO (slipstickref01_Sub.l0 k y0 y1 y2 y3 y4) (slipstickref01_Sub.l0 (k + 1) y0 y1 y2 y3 y4))
  | 0 => fun _ _ _ _ _ r h => by simp [slipstickref01_Sub.l0] at h
  | k + 1 => by
    have ih0 := slipstickref01_Sub.mono_l k
    · intro y0 y1 y2 y3 y4
      unfold slipstickref01_Sub.l0
      repeat' first
      | (with_reducible exact ih0 _ _ _ _ _)
      | (with_reducible exact slipstickref01_cut.mono _ _)
      | (with_reducible exact LeO.refl _)
      | (with_reducible exact LeO.none _)
      | (with_reducible refine LeO.ite ?_ ?_)
      | (with_reducible refine LeO.bind ?_ (fun _ => ?_))
      | exact ih0 _ _ _ _ _
      | exact slipstickref01_cut.mono _ _
      | exact LeO.none _
      | refine LeO.ite ?_ ?_
      | refine LeO.bind ?_ (fun _ => ?_)
theorem slipstickref01_Sub.mono : ∀ a0 a1 k, LeO (slipstickref01_Sub.f k a0 a1) (slipstickref01_Sub.f (k + 1) a0 a1) := by
  intro a0 a1 k
  have ih0 := slipstickref01_Sub.mono_l k
  unfold slipstickref01_Sub.f
  repeat' first
      | (with_reducible exact ih0 _ _ _ _ _)
      | (with_reducible exact slipstickref01_cut.mono _ _)
      | (with_reducible exact LeO.refl _)
      | (with_reducible exact LeO.none _)
      | (with_reducible refine LeO.ite ?_ ?_)
      | (with_reducible refine LeO.bind ?_ (fun _ => ?_))
      | exact ih0 _ _ _ _ _
      | exact slipstickref01_cut.mono _ _
      | exact LeO.none _
      | refine LeO.ite ?_ ?_
      | refine LeO.bind ?_ (fun _ => ?_)
set_option maxHeartbeats 8000000 in
set_option maxRecDepth 100000 in
theorem slipstickref01_Sub.calls (k : Nat) (A0 : Option Addr) (c0 : Nat) (l0 : List Bool) (A1 : Option Addr) (c1 : Nat) (l1 : List Bool) (r : List Bool) (w : World) (hr0 : Kd.C Kd.bool w A0 l0.length l0) (hc0 : l0.length ≤ c0) (hr1 : Kd.C Kd.bool w A1 l1.length l1) (hc1 : l1.length ≤ c1) (h : slipstickref01_Sub.f k l0 l1 = some r) :
    Calls Tryz.prog 84 #[.slice A0 l0.length c0, .slice A1 l1.length c1] w fun e w' => ∃ v0_ : Value, e = .returned (v0_) ∧ Kd.V Kd.bool 4 w' w.heap.size (fun k_ => (w.heap.size ≤ k_)) v0_ r ∧ Below w.heap.size w w' := by
  have HR0 := Aside0.mk hr0
  have HC0 := Aside0.mk hc0
  clear hr0 hc0
  have HR1 := Aside0.mk hr1
  have HC1 := Aside0.mk hc1
  clear hr1 hc1
  have HB := Aside0.mk (Below.refl w.heap.size w)
  have H : (slipstickref01_Sub.l0 k l0 l1 (([] : List Bool)) false 0) = some r := h
  clear h
  obtain ⟨y243, hy243⟩ : ∃ y_ : List Bool, y_ = (([] : List Bool)) := ⟨_, rfl⟩
  replace H : (slipstickref01_Sub.l0 k l0 l1 y243 false 0) = some r := by first | (rw [hy243]; with_reducible exact H) | (have H2_ := (Option.bind_some _ _).symm.trans H; rw [hy243]; with_reducible exact H2_) | (have H2_ := (Option.bind_some _ _).symm.trans H; with_reducible exact H2_) | with_reducible exact H | (rw [hy243]; exact H) | exact H
  have Ny243 := Aside0.mk hy243
  clear hy243
  have H' := Aside0.mk H
  clear H
  go_enter Tryz.func84, Tryz.ntmps84
  go_wp2_with (first | ((with_reducible refine gate_dst (N := 10) rfl ?_); refine Kd.R_lit Kd.bool _ 4 ?hg (N := 10) ?hd (xs := ([] : List Bool)) (inner := []) (ok := fun _ => True) (okp := fun _ => True) ?hr ?hp (fun _ hk => hk) trivial (Below.refl _ _) (Nat.le_refl _) (by simp) ?_; (case hd => rfl); (case hg => rfl); (case hr => first | (go_simp; done) | (go_simp; rfl)); (case hp => exact (Reps.none _ _)); intro v244 w3 ho4 hb hg_ hnew_; clear hg_ hnew_; (first | rw [← Ny243.out] at ho4 | (simp only [Int.reduceToNat] at ho4; rw [← Ny243.out] at ho4)); have n0_ := Aside0.mk (Kd.R_lower (Kd.R_newM (M := fun k_ => (w.heap.size ≤ k_)) ho4 (below_size (by repeat (first | (with_reducible first | exact HB.out | apply below_alloc | apply pw_below_drewN | apply below_drew1) | exact HB.out))) (fun k_ h_ => h_)) (below_size (by repeat (first | (with_reducible first | exact HB.out | apply below_alloc | apply pw_below_drewN | apply below_drew1) | exact HB.out)))); have n1_ := Aside0.mk (below_step (by repeat (first | (with_reducible first | exact HB.out | apply below_alloc | apply pw_below_drewN | apply below_drew1) | exact HB.out)) hb); clear HB; have HO245 := n0_; have HB := n1_; clear n0_ n1_; clear hb ho4))
  go_loopg [5, 6, 7] k (fun kq v5 v6 v7 w' => ∃ (x5_1 : List Bool) (x6_1 : Bool) (x7_1 : Int), v6 = .bool x6_1 ∧ v7 = .int .i64 x7_1 ∧ Aside0 (slipstickref01_Sub.l0 kq l0 l1 x5_1 x6_1 x7_1 = some r) ∧ Aside0 (kq ≤ k) ∧ Aside0 (Kd.R Kd.bool 4 w' w.heap.size (fun k_ => (w.heap.size ≤ k_)) v5 x5_1) ∧ Aside0 (Below w.heap.size w w'))
  case atStart => exact ⟨(y243), (false), (0), (by first | rfl | (simp; done) | (simp [*]; done) | (simp; omega)), (by first | rfl | (simp; done) | (simp [*]; done) | (simp; omega)), H', ⟨Nat.le_refl _⟩, ⟨by (with_reducible repeat (first | apply Kd.R_alloc | apply Kd.R_drewN | apply Kd.R_drew)); exact Kd.R_mono HO245.out (fun _ hk => hk.1)⟩, ⟨by repeat (first | (with_reducible first | exact HB.out | apply below_alloc | apply pw_below_drewN | apply below_drew1) | exact HB.out)⟩⟩
  case round =>
    clear H'
    try clear c1
    try clear p2
    obtain ⟨x5_1, x6_1, x7_1, rfl, rfl, HA, HK1, HO_5, HB⟩ := hrel
    cases gk with
    | zero => exact absurd HA.out (by simp [slipstickref01_Sub.l0])
    | succ k1 =>
      have H := HA.out
      clear HA
      simp only [slipstickref01_Sub.l0] at H
      by_cases c5 : x7_1 < (l0.length : Int)
      · rw [if_pos c5] at H
        have c5b0 : decide (x7_1 < (l0.length : Int)) = true := decide_eq_true c5
        clear c5
        by_cases c6 : 0 ≤ x7_1
        · rw [if_pos c6] at H
          have c6b0 : decide (0 ≤ x7_1) = true := decide_eq_true c6
          clear c6
          replace H := Option.bind_eq_some_iff.mp H
          obtain ⟨t247, A70, H⟩ := H
          replace H : (if x5_1.length < 140737488355328 then ((some (x5_1 ++ [(((rdOf false l0 x7_1) != t247) != x6_1)] : List Bool)).bind fun y248 => (if rdOf false l0 x7_1 = true then (if t247 = true then (slipstickref01_Sub.l0 k1 l0 l1 y248 x6_1 (wrap64 (x7_1 + 1))) else (slipstickref01_Sub.l0 k1 l0 l1 y248 false (wrap64 (x7_1 + 1)))) else (if t247 = true then (slipstickref01_Sub.l0 k1 l0 l1 y248 true (wrap64 (x7_1 + 1))) else (if x6_1 = true then (slipstickref01_Sub.l0 k1 l0 l1 y248 true (wrap64 (x7_1 + 1))) else (slipstickref01_Sub.l0 k1 l0 l1 y248 false (wrap64 (x7_1 + 1))))))) else (none)) = some r := H
          have A7 := Aside0.mk A70
          clear A70
          by_cases c8 : x5_1.length < 140737488355328
          · rw [if_pos c8] at H
            have LMc8 := Aside0.mk c8
            clear c8
            obtain ⟨y248, hy248⟩ : ∃ y_ : List Bool, y_ = (x5_1 ++ [(((rdOf false l0 x7_1) != t247) != x6_1)]) := ⟨_, rfl⟩
            replace H : (if rdOf false l0 x7_1 = true then (if t247 = true then (slipstickref01_Sub.l0 k1 l0 l1 y248 x6_1 (wrap64 (x7_1 + 1))) else (slipstickref01_Sub.l0 k1 l0 l1 y248 false (wrap64 (x7_1 + 1)))) else (if t247 = true then (slipstickref01_Sub.l0 k1 l0 l1 y248 true (wrap64 (x7_1 + 1))) else (if x6_1 = true then (slipstickref01_Sub.l0 k1 l0 l1 y248 true (wrap64 (x7_1 + 1))) else (slipstickref01_Sub.l0 k1 l0 l1 y248 false (wrap64 (x7_1 + 1)))))) = some r := by first | (rw [hy248]; with_reducible exact H) | (have H2_ := (Option.bind_some _ _).symm.trans H; rw [hy248]; with_reducible exact H2_) | (have H2_ := (Option.bind_some _ _).symm.trans H; with_reducible exact H2_) | with_reducible exact H | (rw [hy248]; exact H) | exact H
            have Ny248 := Aside0.mk hy248
            clear hy248
            obtain ⟨bq9, hbq9⟩ : ∃ b_ : Bool, b_ = (rdOf false l0 x7_1) := ⟨_, rfl⟩
            replace H : (if bq9 = true then (if t247 = true then (slipstickref01_Sub.l0 k1 l0 l1 y248 x6_1 (wrap64 (x7_1 + 1))) else (slipstickref01_Sub.l0 k1 l0 l1 y248 false (wrap64 (x7_1 + 1)))) else (if t247 = true then (slipstickref01_Sub.l0 k1 l0 l1 y248 true (wrap64 (x7_1 + 1))) else (if x6_1 = true then (slipstickref01_Sub.l0 k1 l0 l1 y248 true (wrap64 (x7_1 + 1))) else (slipstickref01_Sub.l0 k1 l0 l1 y248 false (wrap64 (x7_1 + 1)))))) = some r := by rw [← hbq9] at H; exact H
            have Nbq9 := Aside0.mk hbq9
            clear hbq9
            by_cases c10 : bq9 = true
            · subst c10
              have H1 : (if t247 = true then (slipstickref01_Sub.l0 k1 l0 l1 y248 x6_1 (wrap64 (x7_1 + 1))) else (slipstickref01_Sub.l0 k1 l0 l1 y248 false (wrap64 (x7_1 + 1)))) = some r := by rw [if_pos rfl] at H; exact H
              clear H
              have H := H1
              clear H1
              by_cases c11 : t247 = true
              · subst c11
                have H1 : (slipstickref01_Sub.l0 k1 l0 l1 y248 x6_1 (wrap64 (x7_1 + 1))) = some r := by rw [if_pos rfl] at H; exact H
                clear H
                have H := H1
                clear H1
                have H' := Aside0.mk H
                clear H
                have p246 : 0 ≤ (x7_1 : Int) := of_decide_eq_true (by first | (with_reducible assumption) | assumption)
                have q246 : x7_1 < (l0.length : Int) := of_decide_eq_true (by first | (with_reducible assumption) | assumption)
                obtain ⟨ad246, e246, hx246_0⟩ := Kd.at_bool HR0.out x7_1 p246 q246
                (try rw [← Nbq9.out] at hx246_0)
                cases e246
                replace hx246_0 := (HB.out.cell (World.block_lt_of_cell? w _ hx246_0)).trans hx246_0
                replace p246 := eq_true p246
                replace q246 := eq_true q246
                (try rw [← Nbq9.out] at Ny248); (have hbn_ : (((true) != true) != x6_1) = x6_1 := by simp); (rw [hbn_] at Ny248); clear hbn_
                go_wp2_with (first | ((with_reducible refine gate_callee (f := 106) rfl ?_); refine goesL_ (some 23) rfl rfl Tryz.func106 (by kernel_rfl) rfl #[.slice A1 l1.length c1, .int .i64 x7_1] rfl (by (try simp only [List.map_toArray, List.map_cons, List.map_nil]); first | done | rfl | (simp only [List.length_drop, List.length_take]; rfl)) ?_; (with_reducible refine (slipstickref01_Bit.calls _ _ l1 x7_1 true _ ?side1 ?side2 A7.out).mono ?_); (case side1 => repeat (first | exact (Kd.C_below HR1.out HB.out) | (with_reducible refine Kd.C_alloc ?_ _) | (with_reducible refine Kd.C_drewN ?_ _) | (with_reducible refine Kd.C_drew ?_))); (case side2 => exact HC1.out); rintro e w' ⟨rfl, ⟨nd, rfl⟩⟩; refine ⟨_, rfl, ?_⟩) | ((with_reducible refine gate_builtin (b := .append) (xs := #[.tmp 24, .tmp 30]) rfl ?_); at_builtin; refine Kd.R_append Kd.bool (w0 := w) w.heap.size rfl (.tmp 24) (.tmp 30) 70 4 (.bool false) 1 rfl Tryz.underlying70 info4 rfl (by decide) (by omega) u5 x5_1 x6_1 [.bool x6_1] (fun k_ => (w.heap.size ≤ k_)) (fun _ => False) rfl rfl ?aP (fun _ hk => hk.elim) ?aF ?aO ?aB ?aS ?aL ?_; (case aP => exact rfl); (case aB => exact (by repeat (first | (with_reducible first | exact HB.out | apply below_alloc | apply pw_below_drewN | apply below_drew1) | exact HB.out))); (case aF => exact (fun k_ hk => (Nat.le_trans (below_size (by repeat (first | (with_reducible first | exact HB.out | apply below_alloc | apply pw_below_drewN | apply below_drew1) | exact HB.out))) hk))); (case aO => exact (by (with_reducible repeat (first | apply Kd.R_alloc | apply Kd.R_drewN | apply Kd.R_drew)); exact HO_5.out)); (case aS => exact (below_size (by repeat (first | (with_reducible first | exact HB.out | apply below_alloc | apply pw_below_drewN | apply below_drew1) | exact HB.out)))); (case aL => have := LMc8.out; omega); intro v249 w12 ho hb hg hat; rw [← Ny248.out] at ho; have n0_ := Aside0.mk (hb); have n1_ := Aside0.mk (ho); clear HB; clear HO_5; have HB := n0_; have HO250 := n1_; clear n0_ n1_; clear ho hb hg hat))
                go_roundg k1
                case measure => have := HK1.out; omega
                case rel => exact ⟨(y248), (x6_1), (wrap64 (x7_1 + 1)), (by first | rfl | (simp; done) | (simp [*]; done) | (simp; omega)), (by first | rfl | (simp; done) | (simp [*]; done) | (simp; omega)), H', ⟨by have := HK1.out; omega⟩, ⟨by (with_reducible repeat (first | apply Kd.R_alloc | apply Kd.R_drewN | apply Kd.R_drew)); exact HO250.out⟩, ⟨by repeat (first | (with_reducible first | exact HB.out | apply below_alloc | apply pw_below_drewN | apply below_drew1) | exact HB.out)⟩⟩
              · replace c11 := Bool.eq_false_iff.mpr c11
                subst c11
                have H1 : (slipstickref01_Sub.l0 k1 l0 l1 y248 false (wrap64 (x7_1 + 1))) = some r := by rw [if_neg (show ¬ (false = true) by decide)] at H; exact H
                clear H
                have H := H1
                clear H1
                have H' := Aside0.mk H
                clear H
                have p246 : 0 ≤ (x7_1 : Int) := of_decide_eq_true (by first | (with_reducible assumption) | assumption)
                have q246 : x7_1 < (l0.length : Int) := of_decide_eq_true (by first | (with_reducible assumption) | assumption)
                obtain ⟨ad246, e246, hx246_0⟩ := Kd.at_bool HR0.out x7_1 p246 q246
                (try rw [← Nbq9.out] at hx246_0)
                cases e246
                replace hx246_0 := (HB.out.cell (World.block_lt_of_cell? w _ hx246_0)).trans hx246_0
                replace p246 := eq_true p246
                replace q246 := eq_true q246
                (try rw [← Nbq9.out] at Ny248); (have hbn_ : (((true) != false) != x6_1) = (!x6_1) := by simp); (rw [hbn_] at Ny248); clear hbn_
                go_wp2_with (first | ((with_reducible refine gate_callee (f := 106) rfl ?_); refine goesL_ (some 23) rfl rfl Tryz.func106 (by kernel_rfl) rfl #[.slice A1 l1.length c1, .int .i64 x7_1] rfl (by (try simp only [List.map_toArray, List.map_cons, List.map_nil]); first | done | rfl | (simp only [List.length_drop, List.length_take]; rfl)) ?_; (with_reducible refine (slipstickref01_Bit.calls _ _ l1 x7_1 false _ ?side1 ?side2 A7.out).mono ?_); (case side1 => repeat (first | exact (Kd.C_below HR1.out HB.out) | (with_reducible refine Kd.C_alloc ?_ _) | (with_reducible refine Kd.C_drewN ?_ _) | (with_reducible refine Kd.C_drew ?_))); (case side2 => exact HC1.out); rintro e w' ⟨rfl, ⟨nd, rfl⟩⟩; refine ⟨_, rfl, ?_⟩) | ((with_reducible refine gate_builtin (b := .append) (xs := #[.tmp 24, .tmp 30]) rfl ?_); at_builtin; refine Kd.R_append Kd.bool (w0 := w) w.heap.size rfl (.tmp 24) (.tmp 30) 70 4 (.bool false) 1 rfl Tryz.underlying70 info4 rfl (by decide) (by omega) u5 x5_1 (!x6_1) [.bool (!x6_1)] (fun k_ => (w.heap.size ≤ k_)) (fun _ => False) rfl rfl ?aP (fun _ hk => hk.elim) ?aF ?aO ?aB ?aS ?aL ?_; (case aP => exact rfl); (case aB => exact (by repeat (first | (with_reducible first | exact HB.out | apply below_alloc | apply pw_below_drewN | apply below_drew1) | exact HB.out))); (case aF => exact (fun k_ hk => (Nat.le_trans (below_size (by repeat (first | (with_reducible first | exact HB.out | apply below_alloc | apply pw_below_drewN | apply below_drew1) | exact HB.out))) hk))); (case aO => exact (by (with_reducible repeat (first | apply Kd.R_alloc | apply Kd.R_drewN | apply Kd.R_drew)); exact HO_5.out)); (case aS => exact (below_size (by repeat (first | (with_reducible first | exact HB.out | apply below_alloc | apply pw_below_drewN | apply below_drew1) | exact HB.out)))); (case aL => have := LMc8.out; omega); intro v249 w13 ho hb hg hat; rw [← Ny248.out] at ho; have n0_ := Aside0.mk (hb); have n1_ := Aside0.mk (ho); clear HB; clear HO_5; have HB := n0_; have HO250 := n1_; clear n0_ n1_; clear ho hb hg hat))
                go_roundg k1
                case measure => have := HK1.out; omega
                case rel => exact ⟨(y248), (false), (wrap64 (x7_1 + 1)), (by first | rfl | (simp; done) | (simp [*]; done) | (simp; omega)), (by first | rfl | (simp; done) | (simp [*]; done) | (simp; omega)), H', ⟨by have := HK1.out; omega⟩, ⟨by (with_reducible repeat (first | apply Kd.R_alloc | apply Kd.R_drewN | apply Kd.R_drew)); exact HO250.out⟩, ⟨by repeat (first | (with_reducible first | exact HB.out | apply below_alloc | apply pw_below_drewN | apply below_drew1) | exact HB.out)⟩⟩
            · replace c10 := Bool.eq_false_iff.mpr c10
              subst c10
              have H1 : (if t247 = true then (slipstickref01_Sub.l0 k1 l0 l1 y248 true (wrap64 (x7_1 + 1))) else (if x6_1 = true then (slipstickref01_Sub.l0 k1 l0 l1 y248 true (wrap64 (x7_1 + 1))) else (slipstickref01_Sub.l0 k1 l0 l1 y248 false (wrap64 (x7_1 + 1))))) = some r := by rw [if_neg (show ¬ (false = true) by decide)] at H; exact H
              clear H
              have H := H1
              clear H1
              by_cases c14 : t247 = true
              · subst c14
                have H1 : (slipstickref01_Sub.l0 k1 l0 l1 y248 true (wrap64 (x7_1 + 1))) = some r := by rw [if_pos rfl] at H; exact H
                clear H
                have H := H1
                clear H1
                have H' := Aside0.mk H
                clear H
                have p246 : 0 ≤ (x7_1 : Int) := of_decide_eq_true (by first | (with_reducible assumption) | assumption)
                have q246 : x7_1 < (l0.length : Int) := of_decide_eq_true (by first | (with_reducible assumption) | assumption)
                obtain ⟨ad246, e246, hx246_0⟩ := Kd.at_bool HR0.out x7_1 p246 q246
                (try rw [← Nbq9.out] at hx246_0)
                cases e246
                replace hx246_0 := (HB.out.cell (World.block_lt_of_cell? w _ hx246_0)).trans hx246_0
                replace p246 := eq_true p246
                replace q246 := eq_true q246
                (try rw [← Nbq9.out] at Ny248); (have hbn_ : (((false) != true) != x6_1) = (!x6_1) := by simp); (rw [hbn_] at Ny248); clear hbn_
                go_wp2_with (first | ((with_reducible refine gate_callee (f := 106) rfl ?_); refine goesL_ (some 23) rfl rfl Tryz.func106 (by kernel_rfl) rfl #[.slice A1 l1.length c1, .int .i64 x7_1] rfl (by (try simp only [List.map_toArray, List.map_cons, List.map_nil]); first | done | rfl | (simp only [List.length_drop, List.length_take]; rfl)) ?_; (with_reducible refine (slipstickref01_Bit.calls _ _ l1 x7_1 true _ ?side1 ?side2 A7.out).mono ?_); (case side1 => repeat (first | exact (Kd.C_below HR1.out HB.out) | (with_reducible refine Kd.C_alloc ?_ _) | (with_reducible refine Kd.C_drewN ?_ _) | (with_reducible refine Kd.C_drew ?_))); (case side2 => exact HC1.out); rintro e w' ⟨rfl, ⟨nd, rfl⟩⟩; refine ⟨_, rfl, ?_⟩) | ((with_reducible refine gate_builtin (b := .append) (xs := #[.tmp 24, .tmp 30]) rfl ?_); at_builtin; refine Kd.R_append Kd.bool (w0 := w) w.heap.size rfl (.tmp 24) (.tmp 30) 70 4 (.bool false) 1 rfl Tryz.underlying70 info4 rfl (by decide) (by omega) u5 x5_1 (!x6_1) [.bool (!x6_1)] (fun k_ => (w.heap.size ≤ k_)) (fun _ => False) rfl rfl ?aP (fun _ hk => hk.elim) ?aF ?aO ?aB ?aS ?aL ?_; (case aP => exact rfl); (case aB => exact (by repeat (first | (with_reducible first | exact HB.out | apply below_alloc | apply pw_below_drewN | apply below_drew1) | exact HB.out))); (case aF => exact (fun k_ hk => (Nat.le_trans (below_size (by repeat (first | (with_reducible first | exact HB.out | apply below_alloc | apply pw_below_drewN | apply below_drew1) | exact HB.out))) hk))); (case aO => exact (by (with_reducible repeat (first | apply Kd.R_alloc | apply Kd.R_drewN | apply Kd.R_drew)); exact HO_5.out)); (case aS => exact (below_size (by repeat (first | (with_reducible first | exact HB.out | apply below_alloc | apply pw_below_drewN | apply below_drew1) | exact HB.out)))); (case aL => have := LMc8.out; omega); intro v249 w15 ho hb hg hat; rw [← Ny248.out] at ho; have n0_ := Aside0.mk (hb); have n1_ := Aside0.mk (ho); clear HB; clear HO_5; have HB := n0_; have HO250 := n1_; clear n0_ n1_; clear ho hb hg hat))
                go_roundg k1
                case measure => have := HK1.out; omega
                case rel => exact ⟨(y248), (true), (wrap64 (x7_1 + 1)), (by first | rfl | (simp; done) | (simp [*]; done) | (simp; omega)), (by first | rfl | (simp; done) | (simp [*]; done) | (simp; omega)), H', ⟨by have := HK1.out; omega⟩, ⟨by (with_reducible repeat (first | apply Kd.R_alloc | apply Kd.R_drewN | apply Kd.R_drew)); exact HO250.out⟩, ⟨by repeat (first | (with_reducible first | exact HB.out | apply below_alloc | apply pw_below_drewN | apply below_drew1) | exact HB.out)⟩⟩
              · replace c14 := Bool.eq_false_iff.mpr c14
                subst c14
                have H1 : (if x6_1 = true then (slipstickref01_Sub.l0 k1 l0 l1 y248 true (wrap64 (x7_1 + 1))) else (slipstickref01_Sub.l0 k1 l0 l1 y248 false (wrap64 (x7_1 + 1)))) = some r := by rw [if_neg (show ¬ (false = true) by decide)] at H; exact H
                clear H
                have H := H1
                clear H1
                by_cases c16 : x6_1 = true
                · subst c16
                  have H1 : (slipstickref01_Sub.l0 k1 l0 l1 y248 true (wrap64 (x7_1 + 1))) = some r := by rw [if_pos rfl] at H; exact H
                  clear H
                  have H := H1
                  clear H1
                  have H' := Aside0.mk H
                  clear H
                  have p246 : 0 ≤ (x7_1 : Int) := of_decide_eq_true (by first | (with_reducible assumption) | assumption)
                  have q246 : x7_1 < (l0.length : Int) := of_decide_eq_true (by first | (with_reducible assumption) | assumption)
                  obtain ⟨ad246, e246, hx246_0⟩ := Kd.at_bool HR0.out x7_1 p246 q246
                  (try rw [← Nbq9.out] at hx246_0)
                  cases e246
                  replace hx246_0 := (HB.out.cell (World.block_lt_of_cell? w _ hx246_0)).trans hx246_0
                  replace p246 := eq_true p246
                  replace q246 := eq_true q246
                  (try rw [← Nbq9.out] at Ny248); (have hbn_ : (((false) != false) != true) = true := by simp); (rw [hbn_] at Ny248); clear hbn_
                  go_wp2_with (first | ((with_reducible refine gate_callee (f := 106) rfl ?_); refine goesL_ (some 23) rfl rfl Tryz.func106 (by kernel_rfl) rfl #[.slice A1 l1.length c1, .int .i64 x7_1] rfl (by (try simp only [List.map_toArray, List.map_cons, List.map_nil]); first | done | rfl | (simp only [List.length_drop, List.length_take]; rfl)) ?_; (with_reducible refine (slipstickref01_Bit.calls _ _ l1 x7_1 false _ ?side1 ?side2 A7.out).mono ?_); (case side1 => repeat (first | exact (Kd.C_below HR1.out HB.out) | (with_reducible refine Kd.C_alloc ?_ _) | (with_reducible refine Kd.C_drewN ?_ _) | (with_reducible refine Kd.C_drew ?_))); (case side2 => exact HC1.out); rintro e w' ⟨rfl, ⟨nd, rfl⟩⟩; refine ⟨_, rfl, ?_⟩) | ((with_reducible refine gate_builtin (b := .append) (xs := #[.tmp 24, .tmp 30]) rfl ?_); at_builtin; refine Kd.R_append Kd.bool (w0 := w) w.heap.size rfl (.tmp 24) (.tmp 30) 70 4 (.bool false) 1 rfl Tryz.underlying70 info4 rfl (by decide) (by omega) u5 x5_1 true [.bool true] (fun k_ => (w.heap.size ≤ k_)) (fun _ => False) rfl rfl ?aP (fun _ hk => hk.elim) ?aF ?aO ?aB ?aS ?aL ?_; (case aP => exact rfl); (case aB => exact (by repeat (first | (with_reducible first | exact HB.out | apply below_alloc | apply pw_below_drewN | apply below_drew1) | exact HB.out))); (case aF => exact (fun k_ hk => (Nat.le_trans (below_size (by repeat (first | (with_reducible first | exact HB.out | apply below_alloc | apply pw_below_drewN | apply below_drew1) | exact HB.out))) hk))); (case aO => exact (by (with_reducible repeat (first | apply Kd.R_alloc | apply Kd.R_drewN | apply Kd.R_drew)); exact HO_5.out)); (case aS => exact (below_size (by repeat (first | (with_reducible first | exact HB.out | apply below_alloc | apply pw_below_drewN | apply below_drew1) | exact HB.out)))); (case aL => have := LMc8.out; omega); intro v249 w17 ho hb hg hat; rw [← Ny248.out] at ho; have n0_ := Aside0.mk (hb); have n1_ := Aside0.mk (ho); clear HB; clear HO_5; have HB := n0_; have HO250 := n1_; clear n0_ n1_; clear ho hb hg hat))
                  go_roundg k1
                  case measure => have := HK1.out; omega
                  case rel => exact ⟨(y248), (true), (wrap64 (x7_1 + 1)), (by first | rfl | (simp; done) | (simp [*]; done) | (simp; omega)), (by first | rfl | (simp; done) | (simp [*]; done) | (simp; omega)), H', ⟨by have := HK1.out; omega⟩, ⟨by (with_reducible repeat (first | apply Kd.R_alloc | apply Kd.R_drewN | apply Kd.R_drew)); exact HO250.out⟩, ⟨by repeat (first | (with_reducible first | exact HB.out | apply below_alloc | apply pw_below_drewN | apply below_drew1) | exact HB.out)⟩⟩
                · replace c16 := Bool.eq_false_iff.mpr c16
                  subst c16
                  have H1 : (slipstickref01_Sub.l0 k1 l0 l1 y248 false (wrap64 (x7_1 + 1))) = some r := by rw [if_neg (show ¬ (false = true) by decide)] at H; exact H
                  clear H
                  have H := H1
                  clear H1
                  have H' := Aside0.mk H
                  clear H
                  have p246 : 0 ≤ (x7_1 : Int) := of_decide_eq_true (by first | (with_reducible assumption) | assumption)
                  have q246 : x7_1 < (l0.length : Int) := of_decide_eq_true (by first | (with_reducible assumption) | assumption)
                  obtain ⟨ad246, e246, hx246_0⟩ := Kd.at_bool HR0.out x7_1 p246 q246
                  (try rw [← Nbq9.out] at hx246_0)
                  cases e246
                  replace hx246_0 := (HB.out.cell (World.block_lt_of_cell? w _ hx246_0)).trans hx246_0
                  replace p246 := eq_true p246
                  replace q246 := eq_true q246
                  (try rw [← Nbq9.out] at Ny248); (have hbn_ : (((false) != false) != false) = false := by simp); (rw [hbn_] at Ny248); clear hbn_
                  go_wp2_with (first | ((with_reducible refine gate_callee (f := 106) rfl ?_); refine goesL_ (some 23) rfl rfl Tryz.func106 (by kernel_rfl) rfl #[.slice A1 l1.length c1, .int .i64 x7_1] rfl (by (try simp only [List.map_toArray, List.map_cons, List.map_nil]); first | done | rfl | (simp only [List.length_drop, List.length_take]; rfl)) ?_; (with_reducible refine (slipstickref01_Bit.calls _ _ l1 x7_1 false _ ?side1 ?side2 A7.out).mono ?_); (case side1 => repeat (first | exact (Kd.C_below HR1.out HB.out) | (with_reducible refine Kd.C_alloc ?_ _) | (with_reducible refine Kd.C_drewN ?_ _) | (with_reducible refine Kd.C_drew ?_))); (case side2 => exact HC1.out); rintro e w' ⟨rfl, ⟨nd, rfl⟩⟩; refine ⟨_, rfl, ?_⟩) | ((with_reducible refine gate_builtin (b := .append) (xs := #[.tmp 24, .tmp 30]) rfl ?_); at_builtin; refine Kd.R_append Kd.bool (w0 := w) w.heap.size rfl (.tmp 24) (.tmp 30) 70 4 (.bool false) 1 rfl Tryz.underlying70 info4 rfl (by decide) (by omega) u5 x5_1 false [.bool false] (fun k_ => (w.heap.size ≤ k_)) (fun _ => False) rfl rfl ?aP (fun _ hk => hk.elim) ?aF ?aO ?aB ?aS ?aL ?_; (case aP => exact rfl); (case aB => exact (by repeat (first | (with_reducible first | exact HB.out | apply below_alloc | apply pw_below_drewN | apply below_drew1) | exact HB.out))); (case aF => exact (fun k_ hk => (Nat.le_trans (below_size (by repeat (first | (with_reducible first | exact HB.out | apply below_alloc | apply pw_below_drewN | apply below_drew1) | exact HB.out))) hk))); (case aO => exact (by (with_reducible repeat (first | apply Kd.R_alloc | apply Kd.R_drewN | apply Kd.R_drew)); exact HO_5.out)); (case aS => exact (below_size (by repeat (first | (with_reducible first | exact HB.out | apply below_alloc | apply pw_below_drewN | apply below_drew1) | exact HB.out)))); (case aL => have := LMc8.out; omega); intro v249 w18 ho hb hg hat; rw [← Ny248.out] at ho; have n0_ := Aside0.mk (hb); have n1_ := Aside0.mk (ho); clear HB; clear HO_5; have HB := n0_; have HO250 := n1_; clear n0_ n1_; clear ho hb hg hat))
                  go_roundg k1
                  case measure => have := HK1.out; omega
                  case rel => exact ⟨(y248), (false), (wrap64 (x7_1 + 1)), (by first | rfl | (simp; done) | (simp [*]; done) | (simp; omega)), (by first | rfl | (simp; done) | (simp [*]; done) | (simp; omega)), H', ⟨by have := HK1.out; omega⟩, ⟨by (with_reducible repeat (first | apply Kd.R_alloc | apply Kd.R_drewN | apply Kd.R_drew)); exact HO250.out⟩, ⟨by repeat (first | (with_reducible first | exact HB.out | apply below_alloc | apply pw_below_drewN | apply below_drew1) | exact HB.out)⟩⟩
          · rw [if_neg c8] at H
            exact absurd H (by simp)
        · rw [if_neg c6] at H
          exact absurd H (by simp)
      · rw [if_neg c5] at H
        have c5b0 : decide (x7_1 < (l0.length : Int)) = false := decide_eq_false c5
        clear c5
        replace H := Option.bind_eq_some_iff.mp H
        obtain ⟨t251, A190, H⟩ := H
        replace H : (some t251) = some r := H
        have A19 := Aside0.mk A190
        clear A190
        obtain rfl := Option.some.inj H
        obtain ⟨Ao20, co20, eo20⟩ := Kd.R_slice HO_5.out
        subst eo20
        go_wp2_with (first | ((with_reducible refine gate_callee (f := 107) rfl ?_); refine goesL_ (some 47) rfl rfl Tryz.func107 (by kernel_rfl) rfl #[.slice Ao20 x5_1.length co20] rfl (by (try simp only [List.map_toArray, List.map_cons, List.map_nil]); first | done | rfl | (simp only [List.length_drop, List.length_take]; rfl)) ?_; (with_reducible refine (slipstickref01_cut.calls k1 (fun k_ => some k_ = (.slice Ao20 x5_1.length co20 : Value).ownBlock) _ _ x5_1 t251 _ ?side1 A19.out).mono ?_); (case side1 => exact Kd.R_V (Kd.R_tight rfl (HO_5.out))); rintro e w21 ⟨v252, rfl, ho0, hb⟩; refine ⟨_, rfl, ?_⟩; have n0_ := Aside0.mk (Kd.R_below (by (with_reducible repeat (first | apply Kd.R_alloc | apply Kd.R_drewN | apply Kd.R_drew)); exact HO_5.out) hb); have n1_ := Aside0.mk (Kd.V_lower (Kd.V_mono (ok' := fun k_ => (w.heap.size ≤ k_)) ho0 (fun k_ hk_ => Or.elim hk_ (fun hs_ => ((HO_5.out).1 k_ hs_.symm)) (fun hn_ => (Nat.le_trans (below_size (by repeat (first | (with_reducible first | exact HB.out | apply below_alloc | apply pw_below_drewN | apply below_drew1) | exact HB.out))) hn_)))) (below_size (by repeat (first | (with_reducible first | exact HB.out | apply below_alloc | apply pw_below_drewN | apply below_drew1) | exact HB.out)))); have n2_ := Aside0.mk (below_step (by repeat (first | (with_reducible first | exact HB.out | apply below_alloc | apply pw_below_drewN | apply below_drew1) | exact HB.out)) hb); clear HO_5; clear HB; have HO_5 := n0_; have HO253 := n1_; have HB := n2_; clear n0_ n1_ n2_; (try clear hb); (try clear hb2); (try clear hk); (try clear hi); (try clear ho0)))
        go_ret
        exact ⟨_, by first | rfl | (simp [errW_none, errW_some] <;> rfl) | (simp [*, errW_none, errW_some] <;> rfl), by (with_reducible repeat (first | apply Kd.V_alloc | apply Kd.V_drewN | apply Kd.V_drew)); exact HO253.out, by repeat (first | (with_reducible first | exact HB.out | apply below_alloc | apply pw_below_drewN | apply below_drew1) | exact HB.out)⟩

/-! ### slipstickref01_Right: function 118 -/
def slipstickref01_Right.l0 : Nat → List Bool → Int → Bool → Int → Option (List Bool × Bool)
  | 0, _, _, _, _ => none
  | k + 1, x0, x1, x6, x7 => if x7 < x1 then (if x6 = true then (slipstickref01_Right.l0 k x0 x1 true (wrap64 (x7 + 1))) else (if 0 ≤ x7 then (if x7 < (x0.length : Int) then (slipstickref01_Right.l0 k x0 x1 (rdOf false x0 x7) (wrap64 (x7 + 1))) else (none)) else (none))) else (if 0 ≤ x1 then (if x1 ≤ (x0.length : Int) then (some ((x0.drop (x1 : Int).toNat), x6)) else (none)) else (none))
def slipstickref01_Right.f (k : Nat) (l0 : List Bool) (a1 : Int) : Option (List Bool × Bool) := slipstickref01_Right.l0 k l0 (mn (mx a1 0) (l0.length : Int)) false 0
theorem slipstickref01_Right.mono_l : ∀ k, (∀ y0 y1 y2 y3, LeO (slipstickref01_Right.l0 k y0 y1 y2 y3) (slipstickref01_Right.l0 (k + 1) y0 y1 y2 y3))
  | 0 => fun _ _ _ _ r h => by simp [slipstickref01_Right.l0] at h
  | k + 1 => by
    have ih0 := slipstickref01_Right.mono_l k
    · intro y0 y1 y2 y3
      unfold slipstickref01_Right.l0
      repeat' first
      | (with_reducible exact ih0 _ _ _ _)
      | (with_reducible exact LeO.refl _)
      | (with_reducible exact LeO.none _)
      | (with_reducible refine LeO.ite ?_ ?_)
      | (with_reducible refine LeO.bind ?_ (fun _ => ?_))
      | exact ih0 _ _ _ _
      | exact LeO.none _
      | refine LeO.ite ?_ ?_
      | refine LeO.bind ?_ (fun _ => ?_)
theorem slipstickref01_Right.mono : ∀ a0 a1 k, LeO (slipstickref01_Right.f k a0 a1) (slipstickref01_Right.f (k + 1) a0 a1) := by
  intro a0 a1 k
  have ih0 := slipstickref01_Right.mono_l k
  unfold slipstickref01_Right.f
  repeat' first
      | (with_reducible exact ih0 _ _ _ _)
      | (with_reducible exact LeO.refl _)
      | (with_reducible exact LeO.none _)
      | (with_reducible refine LeO.ite ?_ ?_)
      | (with_reducible refine LeO.bind ?_ (fun _ => ?_))
      | exact ih0 _ _ _ _
      | exact LeO.none _
      | refine LeO.ite ?_ ?_
      | refine LeO.bind ?_ (fun _ => ?_)
set_option maxHeartbeats 8000000 in
set_option maxRecDepth 100000 in
theorem slipstickref01_Right.calls (k : Nat) (P0_ : Nat → Prop) (A0 : Option Addr) (c0 : Nat) (l0 : List Bool) (a1 : Int) (r1 : List Bool) (r2 : Bool) (w : World) (hs0 : Kd.V Kd.bool 4 w w.heap.size (fun k_ => P0_ k_) (.slice A0 l0.length c0) l0) (h : slipstickref01_Right.f k l0 a1 = some (r1, r2)) :
    Calls Tryz.prog 118 #[.slice A0 l0.length c0, .int .i64 a1] w fun e w' => ∃ v0_ : Value, e = .returned (.tuple #[v0_, .bool r2]) ∧ Kd.V Kd.bool 4 w' w.heap.size (fun k_ => (P0_ k_ ∨ w.heap.size ≤ k_)) v0_ r1 ∧ Below w.heap.size w w' := by
  have HO0 := Aside0.mk (show Kd.V Kd.bool 4 w w.heap.size (fun k_ => (P0_ k_ ∨ w.heap.size ≤ k_)) (.slice A0 l0.length c0) l0 from Kd.V_mono hs0 (fun k_ hk => .inl hk))
  have HB := Aside0.mk (Below.refl w.heap.size w)
  have H : (slipstickref01_Right.l0 k l0 (mn (mx a1 0) (l0.length : Int)) false 0) = some (r1, r2) := h
  clear h
  obtain ⟨ji3, hji3⟩ : ∃ j_ : Int, (mx a1 0) = j_ := ⟨_, rfl⟩
  replace H : (slipstickref01_Right.l0 k l0 (mn (ji3) (l0.length : Int)) false 0) = some (r1, r2) := by first | (rw [hji3] at H; exact H) | (simp only [hji3] at H ⊢; exact H)
  (try (have hji3l : 0 ≤ ji3 := by (rw [← hji3]; unfold mx; (repeat' split) <;> omega)))
  (try (have hji3m : 0 ≤ ji3 := by omega))
  have hji3_ : (if a1 < 0 then 0 else a1) = ji3 := hji3
  obtain ⟨ji4, hji4⟩ : ∃ j_ : Int, (mn (ji3) (l0.length : Int)) = j_ := ⟨_, rfl⟩
  replace H : (slipstickref01_Right.l0 k l0 ji4 false 0) = some (r1, r2) := by first | (rw [hji4] at H; exact H) | (simp only [hji4] at H ⊢; exact H)
  have hji4_ : (if (l0.length : Int) < (ji3) then (l0.length : Int) else (ji3)) = ji4 := hji4
  have H' := Aside0.mk H
  clear H
  go_enter Tryz.func118, Tryz.ntmps118
  go_wp2
  go_loopg [6, 7] k (fun kq v6 v7 w' => ∃ (x6_1 : Bool) (x7_1 : Int), v6 = .bool x6_1 ∧ v7 = .int .i64 x7_1 ∧ Aside0 (slipstickref01_Right.l0 kq l0 ji4 x6_1 x7_1 = some (r1, r2)) ∧ Aside0 (kq ≤ k) ∧ Aside0 (Kd.V Kd.bool 4 w' w.heap.size (fun k_ => (P0_ k_ ∨ w.heap.size ≤ k_)) (.slice A0 l0.length c0) l0) ∧ Aside0 (Below w.heap.size w w'))
  case atStart => exact ⟨(false), (0), (by first | rfl | (simp; done) | (simp [*]; done) | (simp; omega)), (by first | rfl | (simp; done) | (simp [*]; done) | (simp; omega)), H', ⟨Nat.le_refl _⟩, ⟨by (with_reducible repeat (first | apply Kd.V_alloc | apply Kd.V_drewN | apply Kd.V_drew)); exact HO0.out⟩, ⟨by repeat (first | (with_reducible first | exact HB.out | apply below_alloc | apply pw_below_drewN | apply below_drew1) | exact HB.out)⟩⟩
  case round =>
    clear H'
    try clear c1
    try clear p2
    obtain ⟨x6_1, x7_1, rfl, rfl, HA, HK1, HO_0, HB⟩ := hrel
    cases gk with
    | zero => exact absurd HA.out (by simp [slipstickref01_Right.l0])
    | succ k1 =>
      have H := HA.out
      clear HA
      simp only [slipstickref01_Right.l0] at H
      by_cases c5 : x7_1 < ji4
      · rw [if_pos c5] at H
        have c5b0 : decide (x7_1 < ji4) = true := decide_eq_true c5
        clear c5
        by_cases c6 : x6_1 = true
        · subst c6
          have H1 : (slipstickref01_Right.l0 k1 l0 ji4 true (wrap64 (x7_1 + 1))) = some (r1, r2) := by rw [if_pos rfl] at H; exact H
          clear H
          have H := H1
          clear H1
          have H' := Aside0.mk H
          clear H
          go_wp2
          go_roundg k1
          case measure => have := HK1.out; omega
          case rel => exact ⟨(true), (wrap64 (x7_1 + 1)), (by first | rfl | (simp; done) | (simp [*]; done) | (simp; omega)), (by first | rfl | (simp; done) | (simp [*]; done) | (simp; omega)), H', ⟨by have := HK1.out; omega⟩, ⟨by (with_reducible repeat (first | apply Kd.V_alloc | apply Kd.V_drewN | apply Kd.V_drew)); exact HO_0.out⟩, ⟨by repeat (first | (with_reducible first | exact HB.out | apply below_alloc | apply pw_below_drewN | apply below_drew1) | exact HB.out)⟩⟩
        · replace c6 := Bool.eq_false_iff.mpr c6
          subst c6
          have H1 : (if 0 ≤ x7_1 then (if x7_1 < (l0.length : Int) then (slipstickref01_Right.l0 k1 l0 ji4 (rdOf false l0 x7_1) (wrap64 (x7_1 + 1))) else (none)) else (none)) = some (r1, r2) := by rw [if_neg (show ¬ (false = true) by decide)] at H; exact H
          clear H
          have H := H1
          clear H1
          by_cases c7 : 0 ≤ x7_1
          · rw [if_pos c7] at H
            have c7b0 : decide (0 ≤ x7_1) = true := decide_eq_true c7
            clear c7
            by_cases c8 : x7_1 < (l0.length : Int)
            · rw [if_pos c8] at H
              have c8b0 : decide (x7_1 < (l0.length : Int)) = true := decide_eq_true c8
              clear c8
              have H' := Aside0.mk H
              clear H
              have p254 : 0 ≤ (x7_1 : Int) := of_decide_eq_true (by first | (with_reducible assumption) | assumption)
              have q254 : x7_1 < (l0.length : Int) := of_decide_eq_true (by first | (with_reducible assumption) | assumption)
              obtain ⟨ad254, e254, hx254_0⟩ := Kd.at_bool (Kd.V_reads' HO_0.out).2.2 x7_1 p254 q254
              cases e254
              replace p254 := eq_true p254
              replace q254 := eq_true q254
              go_wp2
              go_roundg k1
              case measure => have := HK1.out; omega
              case rel => exact ⟨(rdOf false l0 x7_1), (wrap64 (x7_1 + 1)), (by first | rfl | (simp; done) | (simp [*]; done) | (simp; omega)), (by first | rfl | (simp; done) | (simp [*]; done) | (simp; omega)), H', ⟨by have := HK1.out; omega⟩, ⟨by (with_reducible repeat (first | apply Kd.V_alloc | apply Kd.V_drewN | apply Kd.V_drew)); exact HO_0.out⟩, ⟨by repeat (first | (with_reducible first | exact HB.out | apply below_alloc | apply pw_below_drewN | apply below_drew1) | exact HB.out)⟩⟩
            · rw [if_neg c8] at H
              exact absurd H (by simp)
          · rw [if_neg c7] at H
            exact absurd H (by simp)
      · rw [if_neg c5] at H
        have c5b0 : decide (x7_1 < ji4) = false := decide_eq_false c5
        clear c5
        by_cases c9 : 0 ≤ ji4
        · rw [if_pos c9] at H
          have c9b0 := eq_true c9
          have c9b1 : decide (0 ≤ ji4) = true := decide_eq_true c9
          clear c9
          by_cases c10 : ji4 ≤ (l0.length : Int)
          · rw [if_pos c10] at H
            have c10b0 := eq_true c10
            have c10b1 : decide (ji4 ≤ (l0.length : Int)) = true := decide_eq_true c10
            clear c10
            obtain ⟨y255, hy255⟩ : ∃ y_ : List Bool, y_ = (l0.drop (ji4 : Int).toNat) := ⟨_, rfl⟩
            replace H : (some (y255, x6_1)) = some (r1, r2) := by first | (rw [hy255]; with_reducible exact H) | (have H2_ := (Option.bind_some _ _).symm.trans H; rw [hy255]; with_reducible exact H2_) | (have H2_ := (Option.bind_some _ _).symm.trans H; with_reducible exact H2_) | with_reducible exact H | (rw [hy255]; exact H) | exact H
            have Ny255 := Aside0.mk hy255
            clear hy255
            simp only [Option.some.injEq, Prod.mk.injEq] at H
            obtain ⟨rfl, rfl⟩ := H
            have q11 : (ji4 : Int) ≤ ((l0.length : Int) : Int) := of_decide_eq_true (by first | (with_reducible assumption) | assumption)
            obtain ⟨i011, hi011, _, hsz11, _⟩ := info_parts info4
            have hroom11 : l0.length ≤ c0 := (Kd.V_reads' HO_0.out).2.1
            have hC11 : Kd.F Kd.bool _ _ A0 l0.length l0 := (Kd.V_at (base := w.heap.size) HO_0.out).2.2
            have q011 : (0 : Int) ≤ (ji4 : Int) := of_decide_eq_true (by first | (with_reducible assumption) | assumption)
            have hcut11 := cut_from (P := Tryz.prog) 70 4 .i64 Tryz.underlying70 hi011 1 hsz11 A0 l0.length c0 ji4 q011 q11
            have hr11 := Kd.F_cut (m := (ji4 : Int).toNat) (c := c0) hC11 (by omega) hroom11
            obtain ⟨A11, hA11⟩ : ∃ A1, A1 = (if c0 = (ji4 : Int).toNat then A0 else (A0 : Option Addr).map (·.add ((ji4 : Int).toNat * 1))) := ⟨_, rfl⟩
            obtain ⟨c11, hc11⟩ : ∃ c1, c1 = c0 - (ji4 : Int).toNat := ⟨_, rfl⟩
            have hy11 : y255.length = l0.length - (ji4 : Int).toNat := (by rw [Ny255.out, List.length_drop] <;> omega)
            rw [show (l0).drop (ji4 : Int).toNat = y255 from Ny255.out.symm] at hr11
            replace hr11 : Kd.F Kd.bool _ _ A11 y255.length y255 := (by rw [hA11]; exact hr11)
            rw [← hy11, ← hA11, ← hc11] at hcut11
            have HO259 := Aside0.mk (show Kd.V Kd.bool 4 _ w.heap.size _ (.slice A11 y255.length c11) y255 from Kd.V_mk (by rw [hy11, hc11]; exact Nat.sub_le_sub_right hroom11 _) hr11)
            have HC259 := Aside0.mk (show y255.length ≤ c11 from by rw [hy11, hc11]; exact Nat.sub_le_sub_right hroom11 _)
            clear hr11 hC11 hroom11 hi011 hsz11 hc11
            have KY11 := Aside0.mk hy11
            have KA11 := Aside0.mk hA11
            clear hy11 hA11
            replace q11 := eq_true q11
            go_wp2
            go_ret2
            exact ⟨_, by first | rfl | (simp [errW_none, errW_some] <;> rfl) | (simp only [← hji3, ← hji4]; first | rfl | (simp [errW_none, errW_some] <;> rfl)) | (simp [*, errW_none, errW_some] <;> rfl), by (with_reducible repeat (first | apply Kd.V_alloc | apply Kd.V_drewN | apply Kd.V_drew)); exact HO259.out, by repeat (first | (with_reducible first | exact HB.out | apply below_alloc | apply pw_below_drewN | apply below_drew1) | exact HB.out)⟩
          · rw [if_neg c10] at H
            exact absurd H (by simp)
        · rw [if_neg c9] at H
          exact absurd H (by simp)

end Go.Proofs.YtlaffgojgfdlnaaGreat.P
