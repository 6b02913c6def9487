-- made by a changed copy of the kit's print (wip/hack.py)
import Derived.Test.YtgccgmpfcnhbgaaPx0
import Derived.Test.YtgccgmpfcnhbgaaPx1
import Derived.Test.YtgccgmpfcnhbgaaPx2
import Derived.Test.YtgccgmpfcnhbgaaPx3
import Derived.Test.YtgccgmpfcnhbgaaPx4
import Derived.Test.YtgccgmpfcnhbgaaPx5
namespace Go.Proofs.Ytgccgmpfcnhbgaa.P
open Go.RowKit Go.Proofs.YtgccgmpfcnhbgaaW.PrintWords Go.Proofs.YtgccgmpfcnhbgaaW.PrintLast Go.Proofs.YtgccgmpfcnhbgaaW.PrintMore
attribute [local go_sem] max2_int min2_int max_two min_two max_three min_three max_four min_four   -- for this text's walks alone
set_option linter.unusedVariables false
set_option linter.unusedSimpArgs false

/-! ### slipsticklaw01_NatBack: function 6 -/
def slipsticklaw01_NatBack.j0 : Nat → List Int → List Int → List Int → Int → Bool → Option (Bool)
  | 0, _, _, _, _, _ => none
  | k + 1, x0, x1, x2, x3, x36 => if x36 = true then (some true) else ((nat_Add.f k x0 x1).bind fun t474 => ((nat_Sub.f k t474 x1).bind fun bt477 => ((nat_Mul.f k t474 x2).bind fun bt481 => ((nat_Mul.f k x0 x2).bind fun bt485 => ((nat_Mul.f k x1 x2).bind fun bt489 => ((nat_Nat_Left.f k x0 (wrap64 (Int.tmod x3 4000))).bind fun bt493 => ((nat_Nat_Right.f k bt493.1 (wrap64 (Int.tmod x3 4000))).bind fun bt497 => (if bt477.2 = 0 then ((nat_Cmp.f k bt477.1 x0).bind fun t501 => (if t501 = 0 then (if bt481.2 = 0 then (if bt485.2 = 0 then (if bt489.2 = 0 then ((nat_Add.f k bt485.1 bt489.1).bind fun t502 => ((nat_Cmp.f k bt481.1 t502).bind fun t505 => (if t505 = 0 then (if bt493.2 = 0 then ((nat_Cmp.f k bt497.1 x0).bind fun t506 => (if t506 = 0 then (some (!bt497.2)) else (none))) else (none)) else (none)))) else (none)) else (none)) else (none)) else (none))) else (none)))))))))
def slipsticklaw01_NatBack.f (k : Nat) (l0 : List Int) (l1 : List Int) (l2 : List Int) (a3 : Int) : Option (Bool) := (slipsticklaw01_awake.f k).bind fun t473 => (if t473 = true then (if (l0.length : Int) > 24 then (slipsticklaw01_NatBack.j0 k l0 l1 l2 a3 true) else (if (l1.length : Int) > 24 then (slipsticklaw01_NatBack.j0 k l0 l1 l2 a3 true) else (slipsticklaw01_NatBack.j0 k l0 l1 l2 a3 (decide ((l2.length : Int) > 24))))) else (none))
theorem slipsticklaw01_NatBack.mono_l : ∀ k, (∀ y0 y1 y2 y3 y4, LeO (slipsticklaw01_NatBack.j0 k y0 y1 y2 y3 y4) (slipsticklaw01_NatBack.j0 (k + 1) y0 y1 y2 y3 y4))
  | 0 => fun _ _ _ _ _ r h => by simp [slipsticklaw01_NatBack.j0] at h
  | k + 1 => by
    have ih0 := slipsticklaw01_NatBack.mono_l k
    · intro y0 y1 y2 y3 y4
      unfold slipsticklaw01_NatBack.j0
      repeat' first
      | (with_reducible exact ih0 _ _ _ _ _)
      | (with_reducible exact nat_Add.mono _ _ _)
      | (with_reducible exact nat_Cmp.mono _ _ _)
      | (with_reducible exact nat_Mul.mono _ _ _)
      | (with_reducible exact nat_Nat_Left.mono _ _ _)
      | (with_reducible exact nat_Nat_Right.mono _ _ _)
      | (with_reducible exact nat_Sub.mono _ _ _)
      | (with_reducible exact slipsticklaw01_awake.mono _)
      | (with_reducible exact LeO.refl _)
      | (with_reducible exact LeO.none _)
      | (with_reducible refine LeO.ite ?_ ?_)
      | (with_reducible refine LeO.bind ?_ (fun _ => ?_))
      | exact ih0 _ _ _ _ _
      | exact nat_Add.mono _ _ _
      | exact nat_Cmp.mono _ _ _
      | exact nat_Mul.mono _ _ _
      | exact nat_Nat_Left.mono _ _ _
      | exact nat_Nat_Right.mono _ _ _
      | exact nat_Sub.mono _ _ _
      | exact slipsticklaw01_awake.mono _
      | exact LeO.none _
      | refine LeO.ite ?_ ?_
      | refine LeO.bind ?_ (fun _ => ?_)
theorem slipsticklaw01_NatBack.mono : ∀ a0 a1 a2 a3 k, LeO (slipsticklaw01_NatBack.f k a0 a1 a2 a3) (slipsticklaw01_NatBack.f (k + 1) a0 a1 a2 a3) := by
  intro a0 a1 a2 a3 k
  have ih0 := slipsticklaw01_NatBack.mono_l k
  unfold slipsticklaw01_NatBack.f
  repeat' first
      | (with_reducible exact ih0 _ _ _ _ _)
      | (with_reducible exact nat_Add.mono _ _ _)
      | (with_reducible exact nat_Cmp.mono _ _ _)
      | (with_reducible exact nat_Mul.mono _ _ _)
      | (with_reducible exact nat_Nat_Left.mono _ _ _)
      | (with_reducible exact nat_Nat_Right.mono _ _ _)
      | (with_reducible exact nat_Sub.mono _ _ _)
      | (with_reducible exact slipsticklaw01_awake.mono _)
      | (with_reducible exact LeO.refl _)
      | (with_reducible exact LeO.none _)
      | (with_reducible refine LeO.ite ?_ ?_)
      | (with_reducible refine LeO.bind ?_ (fun _ => ?_))
      | exact ih0 _ _ _ _ _
      | exact nat_Add.mono _ _ _
      | exact nat_Cmp.mono _ _ _
      | exact nat_Mul.mono _ _ _
      | exact nat_Nat_Left.mono _ _ _
      | exact nat_Nat_Right.mono _ _ _
      | exact nat_Sub.mono _ _ _
      | exact slipsticklaw01_awake.mono _
      | exact LeO.none _
      | refine LeO.ite ?_ ?_
      | refine LeO.bind ?_ (fun _ => ?_)
set_option maxHeartbeats 8000000 in
set_option maxRecDepth 100000 in
theorem slipsticklaw01_NatBack.calls (k : Nat) (A0 : Option Addr) (c0 : Nat) (l0 : List Int) (A1 : Option Addr) (c1 : Nat) (l1 : List Int) (A2 : Option Addr) (c2 : Nat) (l2 : List Int) (a3 : Int) (r : Bool) (w : World) (hr0 : Kd.C (Kd.int .u32) w A0 l0.length l0) (hc0 : l0.length ≤ c0) (hr1 : Kd.C (Kd.int .u32) w A1 l1.length l1) (hc1 : l1.length ≤ c1) (hr2 : Kd.C (Kd.int .u32) w A2 l2.length l2) (hc2 : l2.length ≤ c2) (h : slipsticklaw01_NatBack.f k l0 l1 l2 a3 = some r) :
    Calls Try.prog 6 #[.slice A0 l0.length c0, .slice A1 l1.length c1, .slice A2 l2.length c2, .int .u16 a3] w fun e w' => e = .returned (.bool r) ∧ Below w.heap.size w w' := by
  have HR0 := Aside0.mk hr0
  have HC0 := Aside0.mk hc0
  clear hr0 hc0
  have HR1 := Aside0.mk hr1
  have HC1 := Aside0.mk hc1
  clear hr1 hc1
  have HR2 := Aside0.mk hr2
  have HC2 := Aside0.mk hc2
  clear hr2 hc2
  have HB := Aside0.mk (Below.refl w.heap.size w)
  have H : ((slipsticklaw01_awake.f k).bind fun t473 => (if t473 = true then (if (l0.length : Int) > 24 then (slipsticklaw01_NatBack.j0 k l0 l1 l2 a3 true) else (if (l1.length : Int) > 24 then (slipsticklaw01_NatBack.j0 k l0 l1 l2 a3 true) else (slipsticklaw01_NatBack.j0 k l0 l1 l2 a3 (decide ((l2.length : Int) > 24))))) else (none))) = some r := h
  clear h
  replace H := Option.bind_eq_some_iff.mp H
  obtain ⟨t473, A50, H⟩ := H
  replace H : (if t473 = true then (if (l0.length : Int) > 24 then (slipsticklaw01_NatBack.j0 k l0 l1 l2 a3 true) else (if (l1.length : Int) > 24 then (slipsticklaw01_NatBack.j0 k l0 l1 l2 a3 true) else (slipsticklaw01_NatBack.j0 k l0 l1 l2 a3 (decide ((l2.length : Int) > 24))))) else (none)) = some r := H
  have A5 := Aside0.mk A50
  clear A50
  by_cases c6 : t473 = true
  · subst c6
    have H1 : (if (l0.length : Int) > 24 then (slipsticklaw01_NatBack.j0 k l0 l1 l2 a3 true) else (if (l1.length : Int) > 24 then (slipsticklaw01_NatBack.j0 k l0 l1 l2 a3 true) else (slipsticklaw01_NatBack.j0 k l0 l1 l2 a3 (decide ((l2.length : Int) > 24))))) = some r := by rw [if_pos rfl] at H; exact H
    clear H
    have H := H1
    clear H1
    have HC7 := Aside0.mk H
    clear H
    go_enter Try.func6, Try.ntmps6
    go_upto_region 3 with (first | ((with_reducible refine gate_callee (f := 9) rfl ?_); refine goesL_ (some 22) rfl rfl Try.func9 (by kernel_rfl) rfl #[] rfl (by (try simp only [List.map_toArray, List.map_cons, List.map_nil]); first | done | rfl | (simp only [List.length_drop, List.length_take]; rfl)) ?_; (with_reducible refine (slipsticklaw01_awake.calls k  true _ A5.out).mono ?_); rintro e w8 ⟨rfl, hb⟩; refine ⟨_, rfl, ?_⟩; have n0_ := Aside0.mk (below_step (by repeat (first | (with_reducible first | exact HB.out | apply below_alloc | apply pw_below_drewN | apply below_drew1) | exact HB.out)) hb); clear HB; have HB := n0_; clear n0_; (try clear hb); (try clear hb2); (try clear hk); (try clear hi)))
    (try simp only [Act.put, List.setIfInBounds_toArray, List.set_cons_zero, List.set_cons_succ])
    go_cut [36] (fun v36 wc => ∃ (kq : Nat) (x36_6 : Bool), v36 = .bool x36_6 ∧ Aside0 (slipsticklaw01_NatBack.j0 kq l0 l1 l2 a3 x36_6 = some r) ∧ Aside0 (kq ≤ k) ∧ Aside0 (Below w.heap.size w wc))
    case first =>
      have H := HC7.out
      clear HC7
      by_cases c9 : (l0.length : Int) > 24
      · rw [if_pos c9] at H
        have c9b0 : decide (24 < (l0.length : Int)) = true := decide_eq_true c9
        have c9b1 : decide (24 < l0.length) = true := decide_eq_true (by omega)
        clear c9
        (first | rw [c9b0] | (simp only [i64_w, i32_w]; rw [c9b0]) | skip)
        have H' := Aside0.mk H
        clear H
        go_wp2
        go_meet
        case rel => exact ⟨_, (true), (by first | rfl | (simp; done) | (simp [*]; done) | (simp; omega)), H', ⟨by first | omega | exact Nat.le_refl _⟩, ⟨by repeat (first | (with_reducible first | exact HB.out | apply below_alloc | apply pw_below_drewN | apply below_drew1) | exact HB.out)⟩⟩
      · rw [if_neg c9] at H
        have c9b0 : decide (24 < (l0.length : Int)) = false := decide_eq_false c9
        have c9b1 : decide (24 < l0.length) = false := decide_eq_false (by omega)
        clear c9
        (first | rw [c9b0] | (simp only [i64_w, i32_w]; rw [c9b0]) | skip)
        by_cases c10 : (l1.length : Int) > 24
        · rw [if_pos c10] at H
          have c10b0 : decide (24 < (l1.length : Int)) = true := decide_eq_true c10
          have c10b1 : decide (24 < l1.length) = true := decide_eq_true (by omega)
          clear c10
          have H' := Aside0.mk H
          clear H
          go_wp2
          go_meet
          case rel => exact ⟨_, (true), (by first | rfl | (simp; done) | (simp [*]; done) | (simp; omega)), H', ⟨by first | omega | exact Nat.le_refl _⟩, ⟨by repeat (first | (with_reducible first | exact HB.out | apply below_alloc | apply pw_below_drewN | apply below_drew1) | exact HB.out)⟩⟩
        · rw [if_neg c10] at H
          have c10b0 : decide (24 < (l1.length : Int)) = false := decide_eq_false c10
          have c10b1 : decide (24 < l1.length) = false := decide_eq_false (by omega)
          clear c10
          have H' := Aside0.mk H
          clear H
          go_wp2
          go_meet
          case rel => exact ⟨_, (decide ((l2.length : Int) > 24)), (by first | rfl | (simp; done) | (simp [*]; done) | (simp; omega)), H', ⟨by first | omega | exact Nat.le_refl _⟩, ⟨by repeat (first | (with_reducible first | exact HB.out | apply below_alloc | apply pw_below_drewN | apply below_drew1) | exact HB.out)⟩⟩
    case rest =>
      clear HC7
      try clear c1
      try clear c2
      try clear p2
      try clear c6
      try clear c9
      try clear c9b0
      try clear c9b1
      try clear c10
      try clear c10b0
      try clear c10b1
      obtain ⟨kq, x36_6, rfl, HA, HJ6, HB⟩ := hcut
      cases kq with
      | zero => exact absurd HA.out (by simp [slipsticklaw01_NatBack.j0])
      | succ kj6 =>
        have H := HA.out
        clear HA
        simp only [slipsticklaw01_NatBack.j0] at H
        by_cases c11 : x36_6 = true
        · subst c11
          have H1 : (some true) = some r := by rw [if_pos rfl] at H; exact H
          clear H
          have H := H1
          clear H1
          obtain rfl := Option.some.inj H
          go_wp2
          go_ret
          exact ⟨by first | rfl | (simp [errW_none, errW_some] <;> rfl) | (simp [*, errW_none, errW_some] <;> rfl), by repeat (first | (with_reducible first | exact HB.out | apply below_alloc | apply pw_below_drewN | apply below_drew1) | exact HB.out)⟩
        · replace c11 := Bool.eq_false_iff.mpr c11
          subst c11
          have H1 : ((nat_Add.f kj6 l0 l1).bind fun t474 => ((nat_Sub.f kj6 t474 l1).bind fun bt477 => ((nat_Mul.f kj6 t474 l2).bind fun bt481 => ((nat_Mul.f kj6 l0 l2).bind fun bt485 => ((nat_Mul.f kj6 l1 l2).bind fun bt489 => ((nat_Nat_Left.f kj6 l0 (wrap64 (Int.tmod a3 4000))).bind fun bt493 => ((nat_Nat_Right.f kj6 bt493.1 (wrap64 (Int.tmod a3 4000))).bind fun bt497 => (if bt477.2 = 0 then ((nat_Cmp.f kj6 bt477.1 l0).bind fun t501 => (if t501 = 0 then (if bt481.2 = 0 then (if bt485.2 = 0 then (if bt489.2 = 0 then ((nat_Add.f kj6 bt485.1 bt489.1).bind fun t502 => ((nat_Cmp.f kj6 bt481.1 t502).bind fun t505 => (if t505 = 0 then (if bt493.2 = 0 then ((nat_Cmp.f kj6 bt497.1 l0).bind fun t506 => (if t506 = 0 then (some (!bt497.2)) else (none))) else (none)) else (none)))) else (none)) else (none)) else (none)) else (none))) else (none))))))))) = some r := by rw [if_neg (show ¬ (false = true) by decide)] at H; exact H
          clear H
          have H := H1
          clear H1
          replace H := Option.bind_eq_some_iff.mp H
          obtain ⟨t474, A120, H⟩ := H
          replace H : ((nat_Sub.f kj6 t474 l1).bind fun bt477 => ((nat_Mul.f kj6 t474 l2).bind fun bt481 => ((nat_Mul.f kj6 l0 l2).bind fun bt485 => ((nat_Mul.f kj6 l1 l2).bind fun bt489 => ((nat_Nat_Left.f kj6 l0 (wrap64 (Int.tmod a3 4000))).bind fun bt493 => ((nat_Nat_Right.f kj6 bt493.1 (wrap64 (Int.tmod a3 4000))).bind fun bt497 => (if bt477.2 = 0 then ((nat_Cmp.f kj6 bt477.1 l0).bind fun t501 => (if t501 = 0 then (if bt481.2 = 0 then (if bt485.2 = 0 then (if bt489.2 = 0 then ((nat_Add.f kj6 bt485.1 bt489.1).bind fun t502 => ((nat_Cmp.f kj6 bt481.1 t502).bind fun t505 => (if t505 = 0 then (if bt493.2 = 0 then ((nat_Cmp.f kj6 bt497.1 l0).bind fun t506 => (if t506 = 0 then (some (!bt497.2)) else (none))) else (none)) else (none)))) else (none)) else (none)) else (none)) else (none))) else (none)))))))) = some r := H
          have A12 := Aside0.mk A120
          clear A120
          replace H := Option.bind_eq_some_iff.mp H
          obtain ⟨⟨t477, t480⟩, A130, H⟩ := H
          replace H : ((nat_Mul.f kj6 t474 l2).bind fun bt481 => ((nat_Mul.f kj6 l0 l2).bind fun bt485 => ((nat_Mul.f kj6 l1 l2).bind fun bt489 => ((nat_Nat_Left.f kj6 l0 (wrap64 (Int.tmod a3 4000))).bind fun bt493 => ((nat_Nat_Right.f kj6 bt493.1 (wrap64 (Int.tmod a3 4000))).bind fun bt497 => (if t480 = 0 then ((nat_Cmp.f kj6 t477 l0).bind fun t501 => (if t501 = 0 then (if bt481.2 = 0 then (if bt485.2 = 0 then (if bt489.2 = 0 then ((nat_Add.f kj6 bt485.1 bt489.1).bind fun t502 => ((nat_Cmp.f kj6 bt481.1 t502).bind fun t505 => (if t505 = 0 then (if bt493.2 = 0 then ((nat_Cmp.f kj6 bt497.1 l0).bind fun t506 => (if t506 = 0 then (some (!bt497.2)) else (none))) else (none)) else (none)))) else (none)) else (none)) else (none)) else (none))) else (none))))))) = some r := H
          have A13 := Aside0.mk A130
          clear A130
          replace H := Option.bind_eq_some_iff.mp H
          obtain ⟨⟨t481, t484⟩, A140, H⟩ := H
          replace H : ((nat_Mul.f kj6 l0 l2).bind fun bt485 => ((nat_Mul.f kj6 l1 l2).bind fun bt489 => ((nat_Nat_Left.f kj6 l0 (wrap64 (Int.tmod a3 4000))).bind fun bt493 => ((nat_Nat_Right.f kj6 bt493.1 (wrap64 (Int.tmod a3 4000))).bind fun bt497 => (if t480 = 0 then ((nat_Cmp.f kj6 t477 l0).bind fun t501 => (if t501 = 0 then (if t484 = 0 then (if bt485.2 = 0 then (if bt489.2 = 0 then ((nat_Add.f kj6 bt485.1 bt489.1).bind fun t502 => ((nat_Cmp.f kj6 t481 t502).bind fun t505 => (if t505 = 0 then (if bt493.2 = 0 then ((nat_Cmp.f kj6 bt497.1 l0).bind fun t506 => (if t506 = 0 then (some (!bt497.2)) else (none))) else (none)) else (none)))) else (none)) else (none)) else (none)) else (none))) else (none)))))) = some r := H
          have A14 := Aside0.mk A140
          clear A140
          replace H := Option.bind_eq_some_iff.mp H
          obtain ⟨⟨t485, t488⟩, A150, H⟩ := H
          replace H : ((nat_Mul.f kj6 l1 l2).bind fun bt489 => ((nat_Nat_Left.f kj6 l0 (wrap64 (Int.tmod a3 4000))).bind fun bt493 => ((nat_Nat_Right.f kj6 bt493.1 (wrap64 (Int.tmod a3 4000))).bind fun bt497 => (if t480 = 0 then ((nat_Cmp.f kj6 t477 l0).bind fun t501 => (if t501 = 0 then (if t484 = 0 then (if t488 = 0 then (if bt489.2 = 0 then ((nat_Add.f kj6 t485 bt489.1).bind fun t502 => ((nat_Cmp.f kj6 t481 t502).bind fun t505 => (if t505 = 0 then (if bt493.2 = 0 then ((nat_Cmp.f kj6 bt497.1 l0).bind fun t506 => (if t506 = 0 then (some (!bt497.2)) else (none))) else (none)) else (none)))) else (none)) else (none)) else (none)) else (none))) else (none))))) = some r := H
          have A15 := Aside0.mk A150
          clear A150
          replace H := Option.bind_eq_some_iff.mp H
          obtain ⟨⟨t489, t492⟩, A160, H⟩ := H
          replace H : ((nat_Nat_Left.f kj6 l0 (wrap64 (Int.tmod a3 4000))).bind fun bt493 => ((nat_Nat_Right.f kj6 bt493.1 (wrap64 (Int.tmod a3 4000))).bind fun bt497 => (if t480 = 0 then ((nat_Cmp.f kj6 t477 l0).bind fun t501 => (if t501 = 0 then (if t484 = 0 then (if t488 = 0 then (if t492 = 0 then ((nat_Add.f kj6 t485 t489).bind fun t502 => ((nat_Cmp.f kj6 t481 t502).bind fun t505 => (if t505 = 0 then (if bt493.2 = 0 then ((nat_Cmp.f kj6 bt497.1 l0).bind fun t506 => (if t506 = 0 then (some (!bt497.2)) else (none))) else (none)) else (none)))) else (none)) else (none)) else (none)) else (none))) else (none)))) = some r := H
          have A16 := Aside0.mk A160
          clear A160
          replace H := Option.bind_eq_some_iff.mp H
          obtain ⟨⟨t493, t496⟩, A170, H⟩ := H
          replace H : ((nat_Nat_Right.f kj6 t493 (wrap64 (Int.tmod a3 4000))).bind fun bt497 => (if t480 = 0 then ((nat_Cmp.f kj6 t477 l0).bind fun t501 => (if t501 = 0 then (if t484 = 0 then (if t488 = 0 then (if t492 = 0 then ((nat_Add.f kj6 t485 t489).bind fun t502 => ((nat_Cmp.f kj6 t481 t502).bind fun t505 => (if t505 = 0 then (if t496 = 0 then ((nat_Cmp.f kj6 bt497.1 l0).bind fun t506 => (if t506 = 0 then (some (!bt497.2)) else (none))) else (none)) else (none)))) else (none)) else (none)) else (none)) else (none))) else (none))) = some r := H
          have A17 := Aside0.mk A170
          clear A170
          replace H := Option.bind_eq_some_iff.mp H
          obtain ⟨⟨t497, t500⟩, A180, H⟩ := H
          replace H : (if t480 = 0 then ((nat_Cmp.f kj6 t477 l0).bind fun t501 => (if t501 = 0 then (if t484 = 0 then (if t488 = 0 then (if t492 = 0 then ((nat_Add.f kj6 t485 t489).bind fun t502 => ((nat_Cmp.f kj6 t481 t502).bind fun t505 => (if t505 = 0 then (if t496 = 0 then ((nat_Cmp.f kj6 t497 l0).bind fun t506 => (if t506 = 0 then (some (!t500)) else (none))) else (none)) else (none)))) else (none)) else (none)) else (none)) else (none))) else (none)) = some r := H
          have A18 := Aside0.mk A180
          clear A180
          by_cases c19 : t480 = 0
          · rw [if_pos c19] at H
            have c19b0 : (t480 == 0) = true := beq_iff_eq.mpr c19
            have c19b1 : (t480 != 0) = false := bne_eq_false_iff_eq.mpr c19
            clear c19
            replace H := Option.bind_eq_some_iff.mp H
            obtain ⟨t501, A200, H⟩ := H
            replace H : (if t501 = 0 then (if t484 = 0 then (if t488 = 0 then (if t492 = 0 then ((nat_Add.f kj6 t485 t489).bind fun t502 => ((nat_Cmp.f kj6 t481 t502).bind fun t505 => (if t505 = 0 then (if t496 = 0 then ((nat_Cmp.f kj6 t497 l0).bind fun t506 => (if t506 = 0 then (some (!t500)) else (none))) else (none)) else (none)))) else (none)) else (none)) else (none)) else (none)) = some r := H
            have A20 := Aside0.mk A200
            clear A200
            by_cases c21 : t501 = 0
            · rw [if_pos c21] at H
              have c21b0 : (t501 == 0) = true := beq_iff_eq.mpr c21
              have c21b1 : (t501 != 0) = false := bne_eq_false_iff_eq.mpr c21
              clear c21
              by_cases c22 : t484 = 0
              · rw [if_pos c22] at H
                have c22b0 : (t484 == 0) = true := beq_iff_eq.mpr c22
                have c22b1 : (t484 != 0) = false := bne_eq_false_iff_eq.mpr c22
                clear c22
                by_cases c23 : t488 = 0
                · rw [if_pos c23] at H
                  have c23b0 : (t488 == 0) = true := beq_iff_eq.mpr c23
                  have c23b1 : (t488 != 0) = false := bne_eq_false_iff_eq.mpr c23
                  clear c23
                  by_cases c24 : t492 = 0
                  · rw [if_pos c24] at H
                    have c24b0 : (t492 == 0) = true := beq_iff_eq.mpr c24
                    have c24b1 : (t492 != 0) = false := bne_eq_false_iff_eq.mpr c24
                    clear c24
                    replace H := Option.bind_eq_some_iff.mp H
                    obtain ⟨t502, A250, H⟩ := H
                    replace H : ((nat_Cmp.f kj6 t481 t502).bind fun t505 => (if t505 = 0 then (if t496 = 0 then ((nat_Cmp.f kj6 t497 l0).bind fun t506 => (if t506 = 0 then (some (!t500)) else (none))) else (none)) else (none))) = some r := H
                    have A25 := Aside0.mk A250
                    clear A250
                    replace H := Option.bind_eq_some_iff.mp H
                    obtain ⟨t505, A260, H⟩ := H
                    replace H : (if t505 = 0 then (if t496 = 0 then ((nat_Cmp.f kj6 t497 l0).bind fun t506 => (if t506 = 0 then (some (!t500)) else (none))) else (none)) else (none)) = some r := H
                    have A26 := Aside0.mk A260
                    clear A260
                    by_cases c27 : t505 = 0
                    · rw [if_pos c27] at H
                      have c27b0 : (t505 == 0) = true := beq_iff_eq.mpr c27
                      have c27b1 : (t505 != 0) = false := bne_eq_false_iff_eq.mpr c27
                      clear c27
                      by_cases c28 : t496 = 0
                      · rw [if_pos c28] at H
                        have c28b0 : (t496 == 0) = true := beq_iff_eq.mpr c28
                        have c28b1 : (t496 != 0) = false := bne_eq_false_iff_eq.mpr c28
                        clear c28
                        replace H := Option.bind_eq_some_iff.mp H
                        obtain ⟨t506, A290, H⟩ := H
                        replace H : (if t506 = 0 then (some (!t500)) else (none)) = some r := H
                        have A29 := Aside0.mk A290
                        clear A290
                        by_cases c30 : t506 = 0
                        · rw [if_pos c30] at H
                          have c30b0 : (t506 == 0) = true := beq_iff_eq.mpr c30
                          have c30b1 : (t506 != 0) = false := bne_eq_false_iff_eq.mpr c30
                          clear c30
                          obtain rfl := Option.some.inj H
                          have tok7 := Aside0.mk trivial; have tok6 := Aside0.mk trivial; have tok5 := Aside0.mk trivial
                          go_wp2_with (first | ((with_reducible refine gate_callee (f := 18) rfl ?_); refine goesL_ (some 39) rfl rfl Try.func18 (by kernel_rfl) rfl #[.slice A0 l0.length c0, .slice A1 l1.length c1] rfl (by (try simp only [List.map_toArray, List.map_cons, List.map_nil]); first | done | rfl | (simp only [List.length_drop, List.length_take]; rfl)) ?_; (with_reducible refine (nat_Add.calls kj6 _ _ l0 _ _ l1 t474 _ ?side1 ?side2 ?side3 ?side4 A12.out).mono ?_); (case side1 => repeat (first | exact (Kd.C_below HR0.out HB.out) | (with_reducible refine Kd.C_alloc ?_ _) | (with_reducible refine Kd.C_drewN ?_ _) | (with_reducible refine Kd.C_drew ?_))); (case side2 => exact HC0.out); (case side3 => repeat (first | exact (Kd.C_below HR1.out HB.out) | (with_reducible refine Kd.C_alloc ?_ _) | (with_reducible refine Kd.C_drewN ?_ _) | (with_reducible refine Kd.C_drew ?_))); (case side4 => exact HC1.out); rintro e w31 ⟨v475, rfl, ho0, hb⟩; refine ⟨_, rfl, ?_⟩; have n0_ := Aside0.mk (Kd.V_lower (Kd.V_mono (ok' := fun k_ => True) ho0 (fun k_ hk_ => trivial)) (below_size (by repeat (first | (with_reducible first | exact HB.out | apply below_alloc | apply pw_below_drewN | apply below_drew1) | exact HB.out)))); have n1_ := Aside0.mk (below_step (by repeat (first | (with_reducible first | exact HB.out | apply below_alloc | apply pw_below_drewN | apply below_drew1) | exact HB.out)) hb); clear HB; have HO476 := n0_; have HB := n1_; clear n0_ n1_; (try clear hb); (try clear hb2); (try clear hk); (try clear hi); (try clear ho0); obtain ⟨Ao32, co32, eo32⟩ := Kd.V_slice HO476.out; subst eo32) | ((with_reducible refine gate_callee (f := 11) rfl ?_); refine goesL_ (some 43) rfl rfl Try.func11 (by kernel_rfl) rfl #[.slice Ao32 t474.length co32, .slice A1 l1.length c1] rfl (by (try simp only [List.map_toArray, List.map_cons, List.map_nil]); first | done | rfl | (simp only [List.length_drop, List.length_take]; rfl)) ?_; (with_reducible refine (nat_Sub.calls kj6 _ _ t474 _ _ l1 t477 t480 _ ?side1 ?side2 ?side3 ?side4 A13.out).mono ?_); (case side1 => repeat (first | exact (Kd.V_reads' HO476.out).2.2 | (with_reducible refine Kd.C_alloc ?_ _) | (with_reducible refine Kd.C_drewN ?_ _) | (with_reducible refine Kd.C_drew ?_))); (case side2 => exact (Kd.V_reads' HO476.out).2.1); (case side3 => repeat (first | exact (Kd.C_below HR1.out HB.out) | (with_reducible refine Kd.C_alloc ?_ _) | (with_reducible refine Kd.C_drewN ?_ _) | (with_reducible refine Kd.C_drew ?_))); (case side4 => exact HC1.out); rintro e w33 ⟨v478, rfl, ho0, hb⟩; refine ⟨_, rfl, ?_⟩; have n0_ := Aside0.mk (Kd.V_below (by (with_reducible repeat (first | apply Kd.V_alloc | apply Kd.V_drewN | apply Kd.V_drew)); exact HO476.out) hb); have n1_ := Aside0.mk (Kd.V_lower (Kd.V_mono (ok' := fun k_ => True) ho0 (fun k_ hk_ => trivial)) (below_size (by repeat (first | (with_reducible first | exact HB.out | apply below_alloc | apply pw_below_drewN | apply below_drew1) | exact HB.out)))); have n2_ := Aside0.mk (below_step (by repeat (first | (with_reducible first | exact HB.out | apply below_alloc | apply pw_below_drewN | apply below_drew1) | exact HB.out)) hb); clear HO476; clear HB; have HO476 := n0_; have HO479 := n1_; have HB := n2_; clear n0_ n1_ n2_; (try clear hb); (try clear hb2); (try clear hk); (try clear hi); (try clear ho0)) | ((with_reducible refine gate_callee (f := 12) rfl ?_); refine goesL_ (some 49) rfl rfl Try.func12 (by kernel_rfl) rfl #[.slice Ao32 t474.length co32, .slice A2 l2.length c2] rfl (by (try simp only [List.map_toArray, List.map_cons, List.map_nil]); first | done | rfl | (simp only [List.length_drop, List.length_take]; rfl)) ?_; (with_reducible refine (nat_Mul.calls kj6 (fun k_ => True) _ _ t474 (fun k_ => k_ < w.heap.size) _ _ l2 t481 t484 _ ?side1 ?side2 A14.out).mono ?_); (case side1 => exact HO476.out); (case side2 => exact Kd.V_mk HC2.out (Kd.F_below (Kd.C_F (Kd.heap_int .u32) HR2.out) (by repeat (first | (with_reducible first | exact HB.out | apply below_alloc | apply pw_below_drewN | apply below_drew1) | exact HB.out)))); rintro e w34 ⟨v482, rfl, ho0, hb⟩; refine ⟨_, rfl, ?_⟩; have n0_ := Aside0.mk (Kd.V_below (by (with_reducible repeat (first | apply Kd.V_alloc | apply Kd.V_drewN | apply Kd.V_drew)); exact HO476.out) hb); have n1_ := Aside0.mk (Kd.V_below (by (with_reducible repeat (first | apply Kd.V_alloc | apply Kd.V_drewN | apply Kd.V_drew)); exact HO479.out) hb); have n2_ := Aside0.mk (Kd.V_lower (Kd.V_mono (ok' := fun k_ => True) ho0 (fun k_ hk_ => trivial)) (below_size (by repeat (first | (with_reducible first | exact HB.out | apply below_alloc | apply pw_below_drewN | apply below_drew1) | exact HB.out)))); have n3_ := Aside0.mk (below_step (by repeat (first | (with_reducible first | exact HB.out | apply below_alloc | apply pw_below_drewN | apply below_drew1) | exact HB.out)) hb); clear HO476; clear HO479; clear HB; have HO476 := n0_; have HO479 := n1_; have HO483 := n2_; have HB := n3_; clear n0_ n1_ n2_ n3_; (try clear hb); (try clear hb2); (try clear hk); (try clear hi); (try clear ho0)) | ((with_reducible refine gate_callee (f := 12) rfl ?_); refine goesL_ (some 55) rfl rfl Try.func12 (by kernel_rfl) rfl #[.slice A0 l0.length c0, .slice A2 l2.length c2] rfl (by (try simp only [List.map_toArray, List.map_cons, List.map_nil]); first | done | rfl | (simp only [List.length_drop, List.length_take]; rfl)) ?_; (with_reducible refine (nat_Mul.calls kj6 (fun k_ => k_ < w.heap.size) _ _ l0 (fun k_ => k_ < w.heap.size) _ _ l2 t485 t488 _ ?side1 ?side2 A15.out).mono ?_); (case side1 => exact Kd.V_mk HC0.out (Kd.F_below (Kd.C_F (Kd.heap_int .u32) HR0.out) (by repeat (first | (with_reducible first | exact HB.out | apply below_alloc | apply pw_below_drewN | apply below_drew1) | exact HB.out)))); (case side2 => exact Kd.V_mk HC2.out (Kd.F_below (Kd.C_F (Kd.heap_int .u32) HR2.out) (by repeat (first | (with_reducible first | exact HB.out | apply below_alloc | apply pw_below_drewN | apply below_drew1) | exact HB.out)))); rintro e w35 ⟨v486, rfl, ho0, hb⟩; refine ⟨_, rfl, ?_⟩; have n0_ := Aside0.mk (Kd.V_below (by (with_reducible repeat (first | apply Kd.V_alloc | apply Kd.V_drewN | apply Kd.V_drew)); exact HO476.out) hb); have n1_ := Aside0.mk (Kd.V_below (by (with_reducible repeat (first | apply Kd.V_alloc | apply Kd.V_drewN | apply Kd.V_drew)); exact HO479.out) hb); have n2_ := Aside0.mk (Kd.V_below (by (with_reducible repeat (first | apply Kd.V_alloc | apply Kd.V_drewN | apply Kd.V_drew)); exact HO483.out) hb); have n3_ := Aside0.mk (Kd.V_lower (Kd.V_mono (ok' := fun k_ => True) ho0 (fun k_ hk_ => trivial)) (below_size (by repeat (first | (with_reducible first | exact HB.out | apply below_alloc | apply pw_below_drewN | apply below_drew1) | exact HB.out)))); have n4_ := Aside0.mk (below_step (by repeat (first | (with_reducible first | exact HB.out | apply below_alloc | apply pw_below_drewN | apply below_drew1) | exact HB.out)) hb); clear HO476; clear HO479; clear HO483; clear HB; have HO476 := n0_; have HO479 := n1_; have HO483 := n2_; have HO487 := n3_; have HB := n4_; clear n0_ n1_ n2_ n3_ n4_; (try clear hb); (try clear hb2); (try clear hk); (try clear hi); (try clear ho0)) | ((with_reducible refine gate_callee (f := 12) rfl ?_); refine goesL_ (some 61) rfl rfl Try.func12 (by kernel_rfl) rfl #[.slice A1 l1.length c1, .slice A2 l2.length c2] rfl (by (try simp only [List.map_toArray, List.map_cons, List.map_nil]); first | done | rfl | (simp only [List.length_drop, List.length_take]; rfl)) ?_; (with_reducible refine (nat_Mul.calls kj6 (fun k_ => k_ < w.heap.size) _ _ l1 (fun k_ => k_ < w.heap.size) _ _ l2 t489 t492 _ ?side1 ?side2 A16.out).mono ?_); (case side1 => exact Kd.V_mk HC1.out (Kd.F_below (Kd.C_F (Kd.heap_int .u32) HR1.out) (by repeat (first | (with_reducible first | exact HB.out | apply below_alloc | apply pw_below_drewN | apply below_drew1) | exact HB.out)))); (case side2 => exact Kd.V_mk HC2.out (Kd.F_below (Kd.C_F (Kd.heap_int .u32) HR2.out) (by repeat (first | (with_reducible first | exact HB.out | apply below_alloc | apply pw_below_drewN | apply below_drew1) | exact HB.out)))); rintro e w36 ⟨v490, rfl, ho0, hb⟩; refine ⟨_, rfl, ?_⟩; have n0_ := Aside0.mk (Kd.V_below (by (with_reducible repeat (first | apply Kd.V_alloc | apply Kd.V_drewN | apply Kd.V_drew)); exact HO476.out) hb); have n1_ := Aside0.mk (Kd.V_below (by (with_reducible repeat (first | apply Kd.V_alloc | apply Kd.V_drewN | apply Kd.V_drew)); exact HO479.out) hb); have n2_ := Aside0.mk (Kd.V_below (by (with_reducible repeat (first | apply Kd.V_alloc | apply Kd.V_drewN | apply Kd.V_drew)); exact HO483.out) hb); have n3_ := Aside0.mk (Kd.V_below (by (with_reducible repeat (first | apply Kd.V_alloc | apply Kd.V_drewN | apply Kd.V_drew)); exact HO487.out) hb); have n4_ := Aside0.mk (Kd.V_lower (Kd.V_mono (ok' := fun k_ => True) ho0 (fun k_ hk_ => trivial)) (below_size (by repeat (first | (with_reducible first | exact HB.out | apply below_alloc | apply pw_below_drewN | apply below_drew1) | exact HB.out)))); have n5_ := Aside0.mk (below_step (by repeat (first | (with_reducible first | exact HB.out | apply below_alloc | apply pw_below_drewN | apply below_drew1) | exact HB.out)) hb); clear HO476; clear HO479; clear HO483; clear HO487; clear HB; have HO476 := n0_; have HO479 := n1_; have HO483 := n2_; have HO487 := n3_; have HO491 := n4_; have HB := n5_; clear n0_ n1_ n2_ n3_ n4_ n5_; (try clear hb); (try clear hb2); (try clear hk); (try clear hi); (try clear ho0)) | ((with_reducible refine gate_callee (f := 30) rfl ?_); refine goesL_ (some 69) rfl rfl Try.func30 (by kernel_rfl) rfl #[.slice A0 l0.length c0, .int .i64 (wrap64 (Int.tmod a3 4000))] rfl (by (try simp only [List.map_toArray, List.map_cons, List.map_nil]); first | done | rfl | (simp only [List.length_drop, List.length_take]; rfl)) ?_; (with_reducible refine (nat_Nat_Left.calls kj6 _ _ l0 (wrap64 (Int.tmod a3 4000)) t493 t496 _ ?side1 ?side2 A17.out).mono ?_); (case side1 => repeat (first | exact (Kd.C_below HR0.out HB.out) | (with_reducible refine Kd.C_alloc ?_ _) | (with_reducible refine Kd.C_drewN ?_ _) | (with_reducible refine Kd.C_drew ?_))); (case side2 => exact HC0.out); rintro e w37 ⟨v494, rfl, ho0, hb⟩; refine ⟨_, rfl, ?_⟩; have n0_ := Aside0.mk (Kd.V_below (by (with_reducible repeat (first | apply Kd.V_alloc | apply Kd.V_drewN | apply Kd.V_drew)); exact HO476.out) hb); have n1_ := Aside0.mk (Kd.V_below (by (with_reducible repeat (first | apply Kd.V_alloc | apply Kd.V_drewN | apply Kd.V_drew)); exact HO479.out) hb); have n2_ := Aside0.mk (Kd.V_below (by (with_reducible repeat (first | apply Kd.V_alloc | apply Kd.V_drewN | apply Kd.V_drew)); exact HO483.out) hb); have n3_ := Aside0.mk (Kd.V_below (by (with_reducible repeat (first | apply Kd.V_alloc | apply Kd.V_drewN | apply Kd.V_drew)); exact HO487.out) hb); have n4_ := Aside0.mk (Kd.V_below (by (with_reducible repeat (first | apply Kd.V_alloc | apply Kd.V_drewN | apply Kd.V_drew)); exact HO491.out) hb); have n5_ := Aside0.mk (Kd.V_lower (Kd.V_mono (ok' := fun k_ => True) ho0 (fun k_ hk_ => trivial)) (below_size (by repeat (first | (with_reducible first | exact HB.out | apply below_alloc | apply pw_below_drewN | apply below_drew1) | exact HB.out)))); have n6_ := Aside0.mk (below_step (by repeat (first | (with_reducible first | exact HB.out | apply below_alloc | apply pw_below_drewN | apply below_drew1) | exact HB.out)) hb); clear HO476; clear HO479; clear HO483; clear HO487; clear HO491; clear HB; have HO476 := n0_; have HO479 := n1_; have HO483 := n2_; have HO487 := n3_; have HO491 := n4_; have HO495 := n5_; have HB := n6_; clear n0_ n1_ n2_ n3_ n4_ n5_ n6_; (try clear hb); (try clear hb2); (try clear hk); (try clear hi); (try clear ho0); obtain ⟨Ao38, co38, eo38⟩ := Kd.V_slice HO495.out; subst eo38) | ((with_reducible refine gate_callee (f := 31) rfl ?_); refine goesL_ (some 77) rfl rfl Try.func31 (by kernel_rfl) rfl #[.slice Ao38 t493.length co38, .int .i64 (wrap64 (Int.tmod a3 4000))] rfl (by (try simp only [List.map_toArray, List.map_cons, List.map_nil]); first | done | rfl | (simp only [List.length_drop, List.length_take]; rfl)) ?_; (with_reducible refine (nat_Nat_Right.calls kj6 _ _ t493 (wrap64 (Int.tmod a3 4000)) t497 t500 _ ?side1 ?side2 A18.out).mono ?_); (case side1 => repeat (first | exact (Kd.V_reads' HO495.out).2.2 | (with_reducible refine Kd.C_alloc ?_ _) | (with_reducible refine Kd.C_drewN ?_ _) | (with_reducible refine Kd.C_drew ?_))); (case side2 => exact (Kd.V_reads' HO495.out).2.1); rintro e w39 ⟨v498, rfl, ho0, hb⟩; refine ⟨_, rfl, ?_⟩; have n0_ := Aside0.mk (Kd.V_below (by (with_reducible repeat (first | apply Kd.V_alloc | apply Kd.V_drewN | apply Kd.V_drew)); exact HO476.out) hb); have n1_ := Aside0.mk (Kd.V_below (by (with_reducible repeat (first | apply Kd.V_alloc | apply Kd.V_drewN | apply Kd.V_drew)); exact HO479.out) hb); have n2_ := Aside0.mk (Kd.V_below (by (with_reducible repeat (first | apply Kd.V_alloc | apply Kd.V_drewN | apply Kd.V_drew)); exact HO483.out) hb); have n3_ := Aside0.mk (Kd.V_below (by (with_reducible repeat (first | apply Kd.V_alloc | apply Kd.V_drewN | apply Kd.V_drew)); exact HO487.out) hb); have n4_ := Aside0.mk (Kd.V_below (by (with_reducible repeat (first | apply Kd.V_alloc | apply Kd.V_drewN | apply Kd.V_drew)); exact HO491.out) hb); have n5_ := Aside0.mk (Kd.V_below (by (with_reducible repeat (first | apply Kd.V_alloc | apply Kd.V_drewN | apply Kd.V_drew)); exact HO495.out) hb); have n6_ := Aside0.mk (Kd.V_lower (Kd.V_mono (ok' := fun k_ => True) ho0 (fun k_ hk_ => trivial)) (below_size (by repeat (first | (with_reducible first | exact HB.out | apply below_alloc | apply pw_below_drewN | apply below_drew1) | exact HB.out)))); have n7_ := Aside0.mk (below_step (by repeat (first | (with_reducible first | exact HB.out | apply below_alloc | apply pw_below_drewN | apply below_drew1) | exact HB.out)) hb); clear HO476; clear HO479; clear HO483; clear HO487; clear HO491; clear HO495; clear HB; have HO476 := n0_; have HO479 := n1_; have HO483 := n2_; have HO487 := n3_; have HO491 := n4_; have HO495 := n5_; have HO499 := n6_; have HB := n7_; clear n0_ n1_ n2_ n3_ n4_ n5_ n6_ n7_; (try clear hb); (try clear hb2); (try clear hk); (try clear hi); (try clear ho0); obtain ⟨Ao40, co40, eo40⟩ := Kd.V_slice HO479.out; subst eo40) | (go_at_call 20; clear tok7; (with_reducible refine (nat_Cmp.calls kj6 _ _ t477 _ _ l0 t501 _ ?side1 ?side2 ?side3 ?side4 A20.out).mono ?_); (case side1 => repeat (first | exact (Kd.V_reads' HO479.out).2.2 | (with_reducible refine Kd.C_alloc ?_ _) | (with_reducible refine Kd.C_drewN ?_ _) | (with_reducible refine Kd.C_drew ?_))); (case side2 => exact (Kd.V_reads' HO479.out).2.1); (case side3 => repeat (first | exact (Kd.C_below HR0.out HB.out) | (with_reducible refine Kd.C_alloc ?_ _) | (with_reducible refine Kd.C_drewN ?_ _) | (with_reducible refine Kd.C_drew ?_))); (case side4 => exact HC0.out); rintro e w41 ⟨rfl, hb⟩; have n0_ := Aside0.mk (Kd.V_below (by (with_reducible repeat (first | apply Kd.V_alloc | apply Kd.V_drewN | apply Kd.V_drew)); exact HO476.out) hb); have n1_ := Aside0.mk (Kd.V_below (by (with_reducible repeat (first | apply Kd.V_alloc | apply Kd.V_drewN | apply Kd.V_drew)); exact HO479.out) hb); have n2_ := Aside0.mk (Kd.V_below (by (with_reducible repeat (first | apply Kd.V_alloc | apply Kd.V_drewN | apply Kd.V_drew)); exact HO483.out) hb); have n3_ := Aside0.mk (Kd.V_below (by (with_reducible repeat (first | apply Kd.V_alloc | apply Kd.V_drewN | apply Kd.V_drew)); exact HO487.out) hb); have n4_ := Aside0.mk (Kd.V_below (by (with_reducible repeat (first | apply Kd.V_alloc | apply Kd.V_drewN | apply Kd.V_drew)); exact HO491.out) hb); have n5_ := Aside0.mk (Kd.V_below (by (with_reducible repeat (first | apply Kd.V_alloc | apply Kd.V_drewN | apply Kd.V_drew)); exact HO495.out) hb); have n6_ := Aside0.mk (Kd.V_below (by (with_reducible repeat (first | apply Kd.V_alloc | apply Kd.V_drewN | apply Kd.V_drew)); exact HO499.out) hb); have n7_ := Aside0.mk (below_step (by repeat (first | (with_reducible first | exact HB.out | apply below_alloc | apply pw_below_drewN | apply below_drew1) | exact HB.out)) hb); clear HO476; clear HO479; clear HO483; clear HO487; clear HO491; clear HO495; clear HO499; clear HB; have HO476 := n0_; have HO479 := n1_; have HO483 := n2_; have HO487 := n3_; have HO491 := n4_; have HO495 := n5_; have HO499 := n6_; have HB := n7_; clear n0_ n1_ n2_ n3_ n4_ n5_ n6_ n7_; (try clear hb); (try clear hb2); (try clear hk); (try clear hi); obtain ⟨Ao42, co42, eo42⟩ := Kd.V_slice HO487.out; subst eo42; obtain ⟨Ao43, co43, eo43⟩ := Kd.V_slice HO491.out; subst eo43) | (go_at_call 18; (with_reducible refine (nat_Add.calls kj6 _ _ t485 _ _ t489 t502 _ ?side1 ?side2 ?side3 ?side4 A25.out).mono ?_); (case side1 => repeat (first | exact (Kd.V_reads' HO487.out).2.2 | (with_reducible refine Kd.C_alloc ?_ _) | (with_reducible refine Kd.C_drewN ?_ _) | (with_reducible refine Kd.C_drew ?_))); (case side2 => exact (Kd.V_reads' HO487.out).2.1); (case side3 => repeat (first | exact (Kd.V_reads' HO491.out).2.2 | (with_reducible refine Kd.C_alloc ?_ _) | (with_reducible refine Kd.C_drewN ?_ _) | (with_reducible refine Kd.C_drew ?_))); (case side4 => exact (Kd.V_reads' HO491.out).2.1); rintro e w44 ⟨v503, rfl, ho0, hb⟩; have n0_ := Aside0.mk (Kd.V_below (by (with_reducible repeat (first | apply Kd.V_alloc | apply Kd.V_drewN | apply Kd.V_drew)); exact HO476.out) hb); have n1_ := Aside0.mk (Kd.V_below (by (with_reducible repeat (first | apply Kd.V_alloc | apply Kd.V_drewN | apply Kd.V_drew)); exact HO479.out) hb); have n2_ := Aside0.mk (Kd.V_below (by (with_reducible repeat (first | apply Kd.V_alloc | apply Kd.V_drewN | apply Kd.V_drew)); exact HO483.out) hb); have n3_ := Aside0.mk (Kd.V_below (by (with_reducible repeat (first | apply Kd.V_alloc | apply Kd.V_drewN | apply Kd.V_drew)); exact HO487.out) hb); have n4_ := Aside0.mk (Kd.V_below (by (with_reducible repeat (first | apply Kd.V_alloc | apply Kd.V_drewN | apply Kd.V_drew)); exact HO491.out) hb); have n5_ := Aside0.mk (Kd.V_below (by (with_reducible repeat (first | apply Kd.V_alloc | apply Kd.V_drewN | apply Kd.V_drew)); exact HO495.out) hb); have n6_ := Aside0.mk (Kd.V_below (by (with_reducible repeat (first | apply Kd.V_alloc | apply Kd.V_drewN | apply Kd.V_drew)); exact HO499.out) hb); have n7_ := Aside0.mk (Kd.V_lower (Kd.V_mono (ok' := fun k_ => True) ho0 (fun k_ hk_ => trivial)) (below_size (by repeat (first | (with_reducible first | exact HB.out | apply below_alloc | apply pw_below_drewN | apply below_drew1) | exact HB.out)))); have n8_ := Aside0.mk (below_step (by repeat (first | (with_reducible first | exact HB.out | apply below_alloc | apply pw_below_drewN | apply below_drew1) | exact HB.out)) hb); clear HO476; clear HO479; clear HO483; clear HO487; clear HO491; clear HO495; clear HO499; clear HB; have HO476 := n0_; have HO479 := n1_; have HO483 := n2_; have HO487 := n3_; have HO491 := n4_; have HO495 := n5_; have HO499 := n6_; have HO504 := n7_; have HB := n8_; clear n0_ n1_ n2_ n3_ n4_ n5_ n6_ n7_ n8_; (try clear hb); (try clear hb2); (try clear hk); (try clear hi); (try clear ho0); obtain ⟨Ao45, co45, eo45⟩ := Kd.V_slice HO483.out; subst eo45; obtain ⟨Ao46, co46, eo46⟩ := Kd.V_slice HO504.out; subst eo46) | (go_at_call 20; clear tok6; (with_reducible refine (nat_Cmp.calls kj6 _ _ t481 _ _ t502 t505 _ ?side1 ?side2 ?side3 ?side4 A26.out).mono ?_); (case side1 => repeat (first | exact (Kd.V_reads' HO483.out).2.2 | (with_reducible refine Kd.C_alloc ?_ _) | (with_reducible refine Kd.C_drewN ?_ _) | (with_reducible refine Kd.C_drew ?_))); (case side2 => exact (Kd.V_reads' HO483.out).2.1); (case side3 => repeat (first | exact (Kd.V_reads' HO504.out).2.2 | (with_reducible refine Kd.C_alloc ?_ _) | (with_reducible refine Kd.C_drewN ?_ _) | (with_reducible refine Kd.C_drew ?_))); (case side4 => exact (Kd.V_reads' HO504.out).2.1); rintro e w47 ⟨rfl, hb⟩; have n0_ := Aside0.mk (Kd.V_below (by (with_reducible repeat (first | apply Kd.V_alloc | apply Kd.V_drewN | apply Kd.V_drew)); exact HO476.out) hb); have n1_ := Aside0.mk (Kd.V_below (by (with_reducible repeat (first | apply Kd.V_alloc | apply Kd.V_drewN | apply Kd.V_drew)); exact HO479.out) hb); have n2_ := Aside0.mk (Kd.V_below (by (with_reducible repeat (first | apply Kd.V_alloc | apply Kd.V_drewN | apply Kd.V_drew)); exact HO483.out) hb); have n3_ := Aside0.mk (Kd.V_below (by (with_reducible repeat (first | apply Kd.V_alloc | apply Kd.V_drewN | apply Kd.V_drew)); exact HO487.out) hb); have n4_ := Aside0.mk (Kd.V_below (by (with_reducible repeat (first | apply Kd.V_alloc | apply Kd.V_drewN | apply Kd.V_drew)); exact HO491.out) hb); have n5_ := Aside0.mk (Kd.V_below (by (with_reducible repeat (first | apply Kd.V_alloc | apply Kd.V_drewN | apply Kd.V_drew)); exact HO495.out) hb); have n6_ := Aside0.mk (Kd.V_below (by (with_reducible repeat (first | apply Kd.V_alloc | apply Kd.V_drewN | apply Kd.V_drew)); exact HO499.out) hb); have n7_ := Aside0.mk (Kd.V_below (by (with_reducible repeat (first | apply Kd.V_alloc | apply Kd.V_drewN | apply Kd.V_drew)); exact HO504.out) hb); have n8_ := Aside0.mk (below_step (by repeat (first | (with_reducible first | exact HB.out | apply below_alloc | apply pw_below_drewN | apply below_drew1) | exact HB.out)) hb); clear HO476; clear HO479; clear HO483; clear HO487; clear HO491; clear HO495; clear HO499; clear HO504; clear HB; have HO476 := n0_; have HO479 := n1_; have HO483 := n2_; have HO487 := n3_; have HO491 := n4_; have HO495 := n5_; have HO499 := n6_; have HO504 := n7_; have HB := n8_; clear n0_ n1_ n2_ n3_ n4_ n5_ n6_ n7_ n8_; (try clear hb); (try clear hb2); (try clear hk); (try clear hi); obtain ⟨Ao48, co48, eo48⟩ := Kd.V_slice HO499.out; subst eo48) | (go_at_call 20; clear tok5; (with_reducible refine (nat_Cmp.calls kj6 _ _ t497 _ _ l0 t506 _ ?side1 ?side2 ?side3 ?side4 A29.out).mono ?_); (case side1 => repeat (first | exact (Kd.V_reads' HO499.out).2.2 | (with_reducible refine Kd.C_alloc ?_ _) | (with_reducible refine Kd.C_drewN ?_ _) | (with_reducible refine Kd.C_drew ?_))); (case side2 => exact (Kd.V_reads' HO499.out).2.1); (case side3 => repeat (first | exact (Kd.C_below HR0.out HB.out) | (with_reducible refine Kd.C_alloc ?_ _) | (with_reducible refine Kd.C_drewN ?_ _) | (with_reducible refine Kd.C_drew ?_))); (case side4 => exact HC0.out); rintro e w49 ⟨rfl, hb⟩; have n0_ := Aside0.mk (Kd.V_below (by (with_reducible repeat (first | apply Kd.V_alloc | apply Kd.V_drewN | apply Kd.V_drew)); exact HO476.out) hb); have n1_ := Aside0.mk (Kd.V_below (by (with_reducible repeat (first | apply Kd.V_alloc | apply Kd.V_drewN | apply Kd.V_drew)); exact HO479.out) hb); have n2_ := Aside0.mk (Kd.V_below (by (with_reducible repeat (first | apply Kd.V_alloc | apply Kd.V_drewN | apply Kd.V_drew)); exact HO483.out) hb); have n3_ := Aside0.mk (Kd.V_below (by (with_reducible repeat (first | apply Kd.V_alloc | apply Kd.V_drewN | apply Kd.V_drew)); exact HO487.out) hb); have n4_ := Aside0.mk (Kd.V_below (by (with_reducible repeat (first | apply Kd.V_alloc | apply Kd.V_drewN | apply Kd.V_drew)); exact HO491.out) hb); have n5_ := Aside0.mk (Kd.V_below (by (with_reducible repeat (first | apply Kd.V_alloc | apply Kd.V_drewN | apply Kd.V_drew)); exact HO495.out) hb); have n6_ := Aside0.mk (Kd.V_below (by (with_reducible repeat (first | apply Kd.V_alloc | apply Kd.V_drewN | apply Kd.V_drew)); exact HO499.out) hb); have n7_ := Aside0.mk (Kd.V_below (by (with_reducible repeat (first | apply Kd.V_alloc | apply Kd.V_drewN | apply Kd.V_drew)); exact HO504.out) hb); have n8_ := Aside0.mk (below_step (by repeat (first | (with_reducible first | exact HB.out | apply below_alloc | apply pw_below_drewN | apply below_drew1) | exact HB.out)) hb); clear HO476; clear HO479; clear HO483; clear HO487; clear HO491; clear HO495; clear HO499; clear HO504; clear HB; have HO476 := n0_; have HO479 := n1_; have HO483 := n2_; have HO487 := n3_; have HO491 := n4_; have HO495 := n5_; have HO499 := n6_; have HO504 := n7_; have HB := n8_; clear n0_ n1_ n2_ n3_ n4_ n5_ n6_ n7_ n8_; (try clear hb); (try clear hb2); (try clear hk); (try clear hi)))
                          go_ret
                          exact ⟨by first | rfl | (simp [errW_none, errW_some] <;> rfl) | (simp [*, errW_none, errW_some] <;> rfl), by repeat (first | (with_reducible first | exact HB.out | apply below_alloc | apply pw_below_drewN | apply below_drew1) | exact HB.out)⟩
                        · rw [if_neg c30] at H
                          exact absurd H (by simp)
                      · rw [if_neg c28] at H
                        exact absurd H (by simp)
                    · rw [if_neg c27] at H
                      exact absurd H (by simp)
                  · rw [if_neg c24] at H
                    exact absurd H (by simp)
                · rw [if_neg c23] at H
                  exact absurd H (by simp)
              · rw [if_neg c22] at H
                exact absurd H (by simp)
            · rw [if_neg c21] at H
              exact absurd H (by simp)
          · rw [if_neg c19] at H
            exact absurd H (by simp)
  · replace c6 := Bool.eq_false_iff.mpr c6
    subst c6
    have H1 : (none) = some r := by rw [if_neg (show ¬ (false = true) by decide)] at H; exact H
    clear H
    have H := H1
    clear H1
    exact absurd H (by simp)

/-- THE ONE PURE STATEMENT of slipsticklaw01_NatBack: yours. -/
def slipsticklaw01_NatBack.Pure : Prop := ∀ (l0 : List Int) (l1 : List Int) (l2 : List Int) (a3 : Int), l0.length ≤ maxLen → l0.length * 4 ≤ 140737488351232 → (∀ x ∈ l0, (Lit.int .u32 x).wf = true) → l1.length ≤ maxLen → l1.length * 4 ≤ 140737488351232 → (∀ x ∈ l1, (Lit.int .u32 x).wf = true) → l2.length ≤ maxLen → l2.length * 4 ≤ 140737488351232 → (∀ x ∈ l2, (Lit.int .u32 x).wf = true) → (Lit.int .u16 a3).wf = true → ∃ k, slipsticklaw01_NatBack.f k l0 l1 l2 a3 = some true
theorem slipsticklaw01_NatBack.walk (P : slipsticklaw01_NatBack.Pure) (a0 : Option Addr) (len0 cap0 : Nat) (z0 : List Int) (a1 : Option Addr) (len1 cap1 : Nat) (z1 : List Int) (a2 : Option Addr) (len2 cap2 : Nat) (z2 : List Int) (a3 : Int) (w : World) (w0 : (a0 = none ∧ len0 = 0 ∧ cap0 = 0 ∧ z0 = []) ∨ ∃ x, a0 = some x ∧ len0 ≤ cap0 ∧ cap0 ≤ maxLen ∧ z0.length = cap0 ∧ (∀ i, i < z0.length → w.cell? (x.add i) = some (.int .u32 (z0.getD i 0))) ∧ ∀ n ∈ z0, (Lit.int .u32 n).wf = true) (y0 : len0 * 4 ≤ 140737488351232) (w1 : (a1 = none ∧ len1 = 0 ∧ cap1 = 0 ∧ z1 = []) ∨ ∃ x, a1 = some x ∧ len1 ≤ cap1 ∧ cap1 ≤ maxLen ∧ z1.length = cap1 ∧ (∀ i, i < z1.length → w.cell? (x.add i) = some (.int .u32 (z1.getD i 0))) ∧ ∀ n ∈ z1, (Lit.int .u32 n).wf = true) (y1 : len1 * 4 ≤ 140737488351232) (w2 : (a2 = none ∧ len2 = 0 ∧ cap2 = 0 ∧ z2 = []) ∨ ∃ x, a2 = some x ∧ len2 ≤ cap2 ∧ cap2 ≤ maxLen ∧ z2.length = cap2 ∧ (∀ i, i < z2.length → w.cell? (x.add i) = some (.int .u32 (z2.getD i 0))) ∧ ∀ n ∈ z2, (Lit.int .u32 n).wf = true) (y2 : len2 * 4 ≤ 140737488351232) (w3 : (Lit.int .u16 a3).wf = true) :
    Calls Try.prog 6 #[.slice a0 len0 cap0, .slice a1 len1 cap1, .slice a2 len2 cap2, .int .u16 a3] w fun e w' => e = .returned (.bool true) ∧ Below w.heap.size w w' := by
  obtain ⟨l0, rfl, hr0, hm0, hw0, hc0⟩ := ReadsInt.ofRowC w0
  obtain ⟨l1, rfl, hr1, hm1, hw1, hc1⟩ := ReadsInt.ofRowC w1
  obtain ⟨l2, rfl, hr2, hm2, hw2, hc2⟩ := ReadsInt.ofRowC w2
  obtain ⟨k, h⟩ := P l0 l1 l2 a3 hm0 y0 hw0 hm1 y1 hw1 hm2 y2 hw2 w3
  refine (slipsticklaw01_NatBack.calls k _ _ l0 _ _ l1 _ _ l2 a3 true w (Kd.C_of_reads (d := (0 : Int)) (h1 := fun _ => rfl) hr0) hc0 (Kd.C_of_reads (d := (0 : Int)) (h1 := fun _ => rfl) hr1) hc1 (Kd.C_of_reads (d := (0 : Int)) (h1 := fun _ => rfl) hr2) hc2 h).mono ?_
  rintro e w' ⟨rfl, hd⟩
  exact ⟨rfl, hd⟩

/-! ### slipsticklaw01_NatTurned: function 7 -/
def slipsticklaw01_NatTurned.j0 : Nat → List Int → List Int → List Int → Bool → Option (Bool)
  | 0, _, _, _, _ => none
  | k + 1, x0, x1, x2, x31 => if x31 = true then (some true) else ((nat_Mul.f k x0 x1).bind fun bt508 => ((nat_Mul.f k x1 x0).bind fun bt512 => ((nat_Mul.f k bt508.1 x2).bind fun bt516 => ((nat_Mul.f k x1 x2).bind fun bt520 => ((nat_Mul.f k x0 bt520.1).bind fun bt524 => (if bt508.2 = 0 then (if bt512.2 = 0 then (if bt516.2 = 0 then (if bt520.2 = 0 then (if bt524.2 = 0 then ((nat_Cmp.f k bt508.1 bt512.1).bind fun t528 => (if t528 = 0 then ((nat_Cmp.f k bt516.1 bt524.1).bind fun t529 => (if t529 = 0 then ((nat_Add.f k x0 x1).bind fun t530 => ((nat_Add.f k x1 x0).bind fun t533 => ((nat_Cmp.f k t530 t533).bind fun t536 => (if t536 = 0 then ((nat_Add.f k x0 x1).bind fun t537 => ((nat_Add.f k t537 x2).bind fun t540 => ((nat_Add.f k x1 x2).bind fun t543 => ((nat_Add.f k x0 t543).bind fun t546 => ((nat_Cmp.f k t540 t546).bind fun t549 => (some (t549 == 0))))))) else (none))))) else (none))) else (none))) else (none)) else (none)) else (none)) else (none)) else (none)))))))
def slipsticklaw01_NatTurned.f (k : Nat) (l0 : List Int) (l1 : List Int) (l2 : List Int) : Option (Bool) := (slipsticklaw01_awake.f k).bind fun t507 => (if t507 = true then (if (l0.length : Int) > 24 then (slipsticklaw01_NatTurned.j0 k l0 l1 l2 true) else (if (l1.length : Int) > 24 then (slipsticklaw01_NatTurned.j0 k l0 l1 l2 true) else (slipsticklaw01_NatTurned.j0 k l0 l1 l2 (decide ((l2.length : Int) > 24))))) else (none))
theorem slipsticklaw01_NatTurned.mono_l : ∀ k, (∀ y0 y1 y2 y3, LeO (slipsticklaw01_NatTurned.j0 k y0 y1 y2 y3) (slipsticklaw01_NatTurned.j0 (k + 1) y0 y1 y2 y3))
  | 0 => fun _ _ _ _ r h => by simp [slipsticklaw01_NatTurned.j0] at h
  | k + 1 => by
    have ih0 := slipsticklaw01_NatTurned.mono_l k
    · intro y0 y1 y2 y3
      unfold slipsticklaw01_NatTurned.j0
      repeat' first
      | (with_reducible exact ih0 _ _ _ _)
      | (with_reducible exact nat_Add.mono _ _ _)
      | (with_reducible exact nat_Cmp.mono _ _ _)
      | (with_reducible exact nat_Mul.mono _ _ _)
      | (with_reducible exact slipsticklaw01_awake.mono _)
      | (with_reducible exact LeO.refl _)
      | (with_reducible exact LeO.none _)
      | (with_reducible refine LeO.ite ?_ ?_)
      | (with_reducible refine LeO.bind ?_ (fun _ => ?_))
      | exact ih0 _ _ _ _
      | exact nat_Add.mono _ _ _
      | exact nat_Cmp.mono _ _ _
      | exact nat_Mul.mono _ _ _
      | exact slipsticklaw01_awake.mono _
      | exact LeO.none _
      | refine LeO.ite ?_ ?_
      | refine LeO.bind ?_ (fun _ => ?_)
theorem slipsticklaw01_NatTurned.mono : ∀ a0 a1 a2 k, LeO (slipsticklaw01_NatTurned.f k a0 a1 a2) (slipsticklaw01_NatTurned.f (k + 1) a0 a1 a2) := by
  intro a0 a1 a2 k
  have ih0 := slipsticklaw01_NatTurned.mono_l k
  unfold slipsticklaw01_NatTurned.f
  repeat' first
      | (with_reducible exact ih0 _ _ _ _)
      | (with_reducible exact nat_Add.mono _ _ _)
      | (with_reducible exact nat_Cmp.mono _ _ _)
      | (with_reducible exact nat_Mul.mono _ _ _)
      | (with_reducible exact slipsticklaw01_awake.mono _)
      | (with_reducible exact LeO.refl _)
      | (with_reducible exact LeO.none _)
      | (with_reducible refine LeO.ite ?_ ?_)
      | (with_reducible refine LeO.bind ?_ (fun _ => ?_))
      | exact ih0 _ _ _ _
      | exact nat_Add.mono _ _ _
      | exact nat_Cmp.mono _ _ _
      | exact nat_Mul.mono _ _ _
      | exact slipsticklaw01_awake.mono _
      | exact LeO.none _
      | refine LeO.ite ?_ ?_
      | refine LeO.bind ?_ (fun _ => ?_)
set_option maxHeartbeats 8000000 in
set_option maxRecDepth 100000 in
theorem slipsticklaw01_NatTurned.calls (k : Nat) (A0 : Option Addr) (c0 : Nat) (l0 : List Int) (A1 : Option Addr) (c1 : Nat) (l1 : List Int) (A2 : Option Addr) (c2 : Nat) (l2 : List Int) (r : Bool) (w : World) (hr0 : Kd.C (Kd.int .u32) w A0 l0.length l0) (hc0 : l0.length ≤ c0) (hr1 : Kd.C (Kd.int .u32) w A1 l1.length l1) (hc1 : l1.length ≤ c1) (hr2 : Kd.C (Kd.int .u32) w A2 l2.length l2) (hc2 : l2.length ≤ c2) (h : slipsticklaw01_NatTurned.f k l0 l1 l2 = some r) :
    Calls Try.prog 7 #[.slice A0 l0.length c0, .slice A1 l1.length c1, .slice A2 l2.length c2] w fun e w' => e = .returned (.bool r) ∧ Below w.heap.size w w' := by
  have HR0 := Aside0.mk hr0
  have HC0 := Aside0.mk hc0
  clear hr0 hc0
  have HR1 := Aside0.mk hr1
  have HC1 := Aside0.mk hc1
  clear hr1 hc1
  have HR2 := Aside0.mk hr2
  have HC2 := Aside0.mk hc2
  clear hr2 hc2
  have HB := Aside0.mk (Below.refl w.heap.size w)
  have H : ((slipsticklaw01_awake.f k).bind fun t507 => (if t507 = true then (if (l0.length : Int) > 24 then (slipsticklaw01_NatTurned.j0 k l0 l1 l2 true) else (if (l1.length : Int) > 24 then (slipsticklaw01_NatTurned.j0 k l0 l1 l2 true) else (slipsticklaw01_NatTurned.j0 k l0 l1 l2 (decide ((l2.length : Int) > 24))))) else (none))) = some r := h
  clear h
  replace H := Option.bind_eq_some_iff.mp H
  obtain ⟨t507, A40, H⟩ := H
  replace H : (if t507 = true then (if (l0.length : Int) > 24 then (slipsticklaw01_NatTurned.j0 k l0 l1 l2 true) else (if (l1.length : Int) > 24 then (slipsticklaw01_NatTurned.j0 k l0 l1 l2 true) else (slipsticklaw01_NatTurned.j0 k l0 l1 l2 (decide ((l2.length : Int) > 24))))) else (none)) = some r := H
  have A4 := Aside0.mk A40
  clear A40
  by_cases c5 : t507 = true
  · subst c5
    have H1 : (if (l0.length : Int) > 24 then (slipsticklaw01_NatTurned.j0 k l0 l1 l2 true) else (if (l1.length : Int) > 24 then (slipsticklaw01_NatTurned.j0 k l0 l1 l2 true) else (slipsticklaw01_NatTurned.j0 k l0 l1 l2 (decide ((l2.length : Int) > 24))))) = some r := by rw [if_pos rfl] at H; exact H
    clear H
    have H := H1
    clear H1
    have HC6 := Aside0.mk H
    clear H
    go_enter Try.func7, Try.ntmps7
    go_upto_region 3 with (first | ((with_reducible refine gate_callee (f := 9) rfl ?_); refine goesL_ (some 17) rfl rfl Try.func9 (by kernel_rfl) rfl #[] rfl (by (try simp only [List.map_toArray, List.map_cons, List.map_nil]); first | done | rfl | (simp only [List.length_drop, List.length_take]; rfl)) ?_; (with_reducible refine (slipsticklaw01_awake.calls k  true _ A4.out).mono ?_); rintro e w7 ⟨rfl, hb⟩; refine ⟨_, rfl, ?_⟩; have n0_ := Aside0.mk (below_step (by repeat (first | (with_reducible first | exact HB.out | apply below_alloc | apply pw_below_drewN | apply below_drew1) | exact HB.out)) hb); clear HB; have HB := n0_; clear n0_; (try clear hb); (try clear hb2); (try clear hk); (try clear hi)))
    (try simp only [Act.put, List.setIfInBounds_toArray, List.set_cons_zero, List.set_cons_succ])
    go_cut [31] (fun v31 wc => ∃ (kq : Nat) (x31_5 : Bool), v31 = .bool x31_5 ∧ Aside0 (slipsticklaw01_NatTurned.j0 kq l0 l1 l2 x31_5 = some r) ∧ Aside0 (kq ≤ k) ∧ Aside0 (Below w.heap.size w wc))
    case first =>
      have H := HC6.out
      clear HC6
      by_cases c8 : (l0.length : Int) > 24
      · rw [if_pos c8] at H
        have c8b0 : decide (24 < (l0.length : Int)) = true := decide_eq_true c8
        have c8b1 : decide (24 < l0.length) = true := decide_eq_true (by omega)
        clear c8
        (first | rw [c8b0] | (simp only [i64_w, i32_w]; rw [c8b0]) | skip)
        have H' := Aside0.mk H
        clear H
        go_wp2
        go_meet
        case rel => exact ⟨_, (true), (by first | rfl | (simp; done) | (simp [*]; done) | (simp; omega)), H', ⟨by first | omega | exact Nat.le_refl _⟩, ⟨by repeat (first | (with_reducible first | exact HB.out | apply below_alloc | apply pw_below_drewN | apply below_drew1) | exact HB.out)⟩⟩
      · rw [if_neg c8] at H
        have c8b0 : decide (24 < (l0.length : Int)) = false := decide_eq_false c8
        have c8b1 : decide (24 < l0.length) = false := decide_eq_false (by omega)
        clear c8
        (first | rw [c8b0] | (simp only [i64_w, i32_w]; rw [c8b0]) | skip)
        by_cases c9 : (l1.length : Int) > 24
        · rw [if_pos c9] at H
          have c9b0 : decide (24 < (l1.length : Int)) = true := decide_eq_true c9
          have c9b1 : decide (24 < l1.length) = true := decide_eq_true (by omega)
          clear c9
          have H' := Aside0.mk H
          clear H
          go_wp2
          go_meet
          case rel => exact ⟨_, (true), (by first | rfl | (simp; done) | (simp [*]; done) | (simp; omega)), H', ⟨by first | omega | exact Nat.le_refl _⟩, ⟨by repeat (first | (with_reducible first | exact HB.out | apply below_alloc | apply pw_below_drewN | apply below_drew1) | exact HB.out)⟩⟩
        · rw [if_neg c9] at H
          have c9b0 : decide (24 < (l1.length : Int)) = false := decide_eq_false c9
          have c9b1 : decide (24 < l1.length) = false := decide_eq_false (by omega)
          clear c9
          have H' := Aside0.mk H
          clear H
          go_wp2
          go_meet
          case rel => exact ⟨_, (decide ((l2.length : Int) > 24)), (by first | rfl | (simp; done) | (simp [*]; done) | (simp; omega)), H', ⟨by first | omega | exact Nat.le_refl _⟩, ⟨by repeat (first | (with_reducible first | exact HB.out | apply below_alloc | apply pw_below_drewN | apply below_drew1) | exact HB.out)⟩⟩
    case rest =>
      clear HC6
      try clear c1
      try clear c2
      try clear p2
      try clear c5
      try clear c7
      try clear c8
      try clear c8b0
      try clear c8b1
      try clear c9
      try clear c9b0
      try clear c9b1
      obtain ⟨kq, x31_5, rfl, HA, HJ5, HB⟩ := hcut
      cases kq with
      | zero => exact absurd HA.out (by simp [slipsticklaw01_NatTurned.j0])
      | succ kj5 =>
        have H := HA.out
        clear HA
        simp only [slipsticklaw01_NatTurned.j0] at H
        by_cases c10 : x31_5 = true
        · subst c10
          have H1 : (some true) = some r := by rw [if_pos rfl] at H; exact H
          clear H
          have H := H1
          clear H1
          obtain rfl := Option.some.inj H
          go_wp2
          go_ret
          exact ⟨by first | rfl | (simp [errW_none, errW_some] <;> rfl) | (simp [*, errW_none, errW_some] <;> rfl), by repeat (first | (with_reducible first | exact HB.out | apply below_alloc | apply pw_below_drewN | apply below_drew1) | exact HB.out)⟩
        · replace c10 := Bool.eq_false_iff.mpr c10
          subst c10
          have H1 : ((nat_Mul.f kj5 l0 l1).bind fun bt508 => ((nat_Mul.f kj5 l1 l0).bind fun bt512 => ((nat_Mul.f kj5 bt508.1 l2).bind fun bt516 => ((nat_Mul.f kj5 l1 l2).bind fun bt520 => ((nat_Mul.f kj5 l0 bt520.1).bind fun bt524 => (if bt508.2 = 0 then (if bt512.2 = 0 then (if bt516.2 = 0 then (if bt520.2 = 0 then (if bt524.2 = 0 then ((nat_Cmp.f kj5 bt508.1 bt512.1).bind fun t528 => (if t528 = 0 then ((nat_Cmp.f kj5 bt516.1 bt524.1).bind fun t529 => (if t529 = 0 then ((nat_Add.f kj5 l0 l1).bind fun t530 => ((nat_Add.f kj5 l1 l0).bind fun t533 => ((nat_Cmp.f kj5 t530 t533).bind fun t536 => (if t536 = 0 then ((nat_Add.f kj5 l0 l1).bind fun t537 => ((nat_Add.f kj5 t537 l2).bind fun t540 => ((nat_Add.f kj5 l1 l2).bind fun t543 => ((nat_Add.f kj5 l0 t543).bind fun t546 => ((nat_Cmp.f kj5 t540 t546).bind fun t549 => (some (t549 == 0))))))) else (none))))) else (none))) else (none))) else (none)) else (none)) else (none)) else (none)) else (none))))))) = some r := by rw [if_neg (show ¬ (false = true) by decide)] at H; exact H
          clear H
          have H := H1
          clear H1
          replace H := Option.bind_eq_some_iff.mp H
          obtain ⟨⟨t508, t511⟩, A110, H⟩ := H
          replace H : ((nat_Mul.f kj5 l1 l0).bind fun bt512 => ((nat_Mul.f kj5 t508 l2).bind fun bt516 => ((nat_Mul.f kj5 l1 l2).bind fun bt520 => ((nat_Mul.f kj5 l0 bt520.1).bind fun bt524 => (if t511 = 0 then (if bt512.2 = 0 then (if bt516.2 = 0 then (if bt520.2 = 0 then (if bt524.2 = 0 then ((nat_Cmp.f kj5 t508 bt512.1).bind fun t528 => (if t528 = 0 then ((nat_Cmp.f kj5 bt516.1 bt524.1).bind fun t529 => (if t529 = 0 then ((nat_Add.f kj5 l0 l1).bind fun t530 => ((nat_Add.f kj5 l1 l0).bind fun t533 => ((nat_Cmp.f kj5 t530 t533).bind fun t536 => (if t536 = 0 then ((nat_Add.f kj5 l0 l1).bind fun t537 => ((nat_Add.f kj5 t537 l2).bind fun t540 => ((nat_Add.f kj5 l1 l2).bind fun t543 => ((nat_Add.f kj5 l0 t543).bind fun t546 => ((nat_Cmp.f kj5 t540 t546).bind fun t549 => (some (t549 == 0))))))) else (none))))) else (none))) else (none))) else (none)) else (none)) else (none)) else (none)) else (none)))))) = some r := H
          have A11 := Aside0.mk A110
          clear A110
          replace H := Option.bind_eq_some_iff.mp H
          obtain ⟨⟨t512, t515⟩, A120, H⟩ := H
          replace H : ((nat_Mul.f kj5 t508 l2).bind fun bt516 => ((nat_Mul.f kj5 l1 l2).bind fun bt520 => ((nat_Mul.f kj5 l0 bt520.1).bind fun bt524 => (if t511 = 0 then (if t515 = 0 then (if bt516.2 = 0 then (if bt520.2 = 0 then (if bt524.2 = 0 then ((nat_Cmp.f kj5 t508 t512).bind fun t528 => (if t528 = 0 then ((nat_Cmp.f kj5 bt516.1 bt524.1).bind fun t529 => (if t529 = 0 then ((nat_Add.f kj5 l0 l1).bind fun t530 => ((nat_Add.f kj5 l1 l0).bind fun t533 => ((nat_Cmp.f kj5 t530 t533).bind fun t536 => (if t536 = 0 then ((nat_Add.f kj5 l0 l1).bind fun t537 => ((nat_Add.f kj5 t537 l2).bind fun t540 => ((nat_Add.f kj5 l1 l2).bind fun t543 => ((nat_Add.f kj5 l0 t543).bind fun t546 => ((nat_Cmp.f kj5 t540 t546).bind fun t549 => (some (t549 == 0))))))) else (none))))) else (none))) else (none))) else (none)) else (none)) else (none)) else (none)) else (none))))) = some r := H
          have A12 := Aside0.mk A120
          clear A120
          replace H := Option.bind_eq_some_iff.mp H
          obtain ⟨⟨t516, t519⟩, A130, H⟩ := H
          replace H : ((nat_Mul.f kj5 l1 l2).bind fun bt520 => ((nat_Mul.f kj5 l0 bt520.1).bind fun bt524 => (if t511 = 0 then (if t515 = 0 then (if t519 = 0 then (if bt520.2 = 0 then (if bt524.2 = 0 then ((nat_Cmp.f kj5 t508 t512).bind fun t528 => (if t528 = 0 then ((nat_Cmp.f kj5 t516 bt524.1).bind fun t529 => (if t529 = 0 then ((nat_Add.f kj5 l0 l1).bind fun t530 => ((nat_Add.f kj5 l1 l0).bind fun t533 => ((nat_Cmp.f kj5 t530 t533).bind fun t536 => (if t536 = 0 then ((nat_Add.f kj5 l0 l1).bind fun t537 => ((nat_Add.f kj5 t537 l2).bind fun t540 => ((nat_Add.f kj5 l1 l2).bind fun t543 => ((nat_Add.f kj5 l0 t543).bind fun t546 => ((nat_Cmp.f kj5 t540 t546).bind fun t549 => (some (t549 == 0))))))) else (none))))) else (none))) else (none))) else (none)) else (none)) else (none)) else (none)) else (none)))) = some r := H
          have A13 := Aside0.mk A130
          clear A130
          replace H := Option.bind_eq_some_iff.mp H
          obtain ⟨⟨t520, t523⟩, A140, H⟩ := H
          replace H : ((nat_Mul.f kj5 l0 t520).bind fun bt524 => (if t511 = 0 then (if t515 = 0 then (if t519 = 0 then (if t523 = 0 then (if bt524.2 = 0 then ((nat_Cmp.f kj5 t508 t512).bind fun t528 => (if t528 = 0 then ((nat_Cmp.f kj5 t516 bt524.1).bind fun t529 => (if t529 = 0 then ((nat_Add.f kj5 l0 l1).bind fun t530 => ((nat_Add.f kj5 l1 l0).bind fun t533 => ((nat_Cmp.f kj5 t530 t533).bind fun t536 => (if t536 = 0 then ((nat_Add.f kj5 l0 l1).bind fun t537 => ((nat_Add.f kj5 t537 l2).bind fun t540 => ((nat_Add.f kj5 l1 l2).bind fun t543 => ((nat_Add.f kj5 l0 t543).bind fun t546 => ((nat_Cmp.f kj5 t540 t546).bind fun t549 => (some (t549 == 0))))))) else (none))))) else (none))) else (none))) else (none)) else (none)) else (none)) else (none)) else (none))) = some r := H
          have A14 := Aside0.mk A140
          clear A140
          replace H := Option.bind_eq_some_iff.mp H
          obtain ⟨⟨t524, t527⟩, A150, H⟩ := H
          replace H : (if t511 = 0 then (if t515 = 0 then (if t519 = 0 then (if t523 = 0 then (if t527 = 0 then ((nat_Cmp.f kj5 t508 t512).bind fun t528 => (if t528 = 0 then ((nat_Cmp.f kj5 t516 t524).bind fun t529 => (if t529 = 0 then ((nat_Add.f kj5 l0 l1).bind fun t530 => ((nat_Add.f kj5 l1 l0).bind fun t533 => ((nat_Cmp.f kj5 t530 t533).bind fun t536 => (if t536 = 0 then ((nat_Add.f kj5 l0 l1).bind fun t537 => ((nat_Add.f kj5 t537 l2).bind fun t540 => ((nat_Add.f kj5 l1 l2).bind fun t543 => ((nat_Add.f kj5 l0 t543).bind fun t546 => ((nat_Cmp.f kj5 t540 t546).bind fun t549 => (some (t549 == 0))))))) else (none))))) else (none))) else (none))) else (none)) else (none)) else (none)) else (none)) else (none)) = some r := H
          have A15 := Aside0.mk A150
          clear A150
          by_cases c16 : t511 = 0
          · rw [if_pos c16] at H
            have c16b0 : (t511 == 0) = true := beq_iff_eq.mpr c16
            have c16b1 : (t511 != 0) = false := bne_eq_false_iff_eq.mpr c16
            clear c16
            by_cases c17 : t515 = 0
            · rw [if_pos c17] at H
              have c17b0 : (t515 == 0) = true := beq_iff_eq.mpr c17
              have c17b1 : (t515 != 0) = false := bne_eq_false_iff_eq.mpr c17
              clear c17
              by_cases c18 : t519 = 0
              · rw [if_pos c18] at H
                have c18b0 : (t519 == 0) = true := beq_iff_eq.mpr c18
                have c18b1 : (t519 != 0) = false := bne_eq_false_iff_eq.mpr c18
                clear c18
                by_cases c19 : t523 = 0
                · rw [if_pos c19] at H
                  have c19b0 : (t523 == 0) = true := beq_iff_eq.mpr c19
                  have c19b1 : (t523 != 0) = false := bne_eq_false_iff_eq.mpr c19
                  clear c19
                  by_cases c20 : t527 = 0
                  · rw [if_pos c20] at H
                    have c20b0 : (t527 == 0) = true := beq_iff_eq.mpr c20
                    have c20b1 : (t527 != 0) = false := bne_eq_false_iff_eq.mpr c20
                    clear c20
                    replace H := Option.bind_eq_some_iff.mp H
                    obtain ⟨t528, A210, H⟩ := H
                    replace H : (if t528 = 0 then ((nat_Cmp.f kj5 t516 t524).bind fun t529 => (if t529 = 0 then ((nat_Add.f kj5 l0 l1).bind fun t530 => ((nat_Add.f kj5 l1 l0).bind fun t533 => ((nat_Cmp.f kj5 t530 t533).bind fun t536 => (if t536 = 0 then ((nat_Add.f kj5 l0 l1).bind fun t537 => ((nat_Add.f kj5 t537 l2).bind fun t540 => ((nat_Add.f kj5 l1 l2).bind fun t543 => ((nat_Add.f kj5 l0 t543).bind fun t546 => ((nat_Cmp.f kj5 t540 t546).bind fun t549 => (some (t549 == 0))))))) else (none))))) else (none))) else (none)) = some r := H
                    have A21 := Aside0.mk A210
                    clear A210
                    by_cases c22 : t528 = 0
                    · rw [if_pos c22] at H
                      have c22b0 : (t528 == 0) = true := beq_iff_eq.mpr c22
                      have c22b1 : (t528 != 0) = false := bne_eq_false_iff_eq.mpr c22
                      clear c22
                      replace H := Option.bind_eq_some_iff.mp H
                      obtain ⟨t529, A230, H⟩ := H
                      replace H : (if t529 = 0 then ((nat_Add.f kj5 l0 l1).bind fun t530 => ((nat_Add.f kj5 l1 l0).bind fun t533 => ((nat_Cmp.f kj5 t530 t533).bind fun t536 => (if t536 = 0 then ((nat_Add.f kj5 l0 l1).bind fun t537 => ((nat_Add.f kj5 t537 l2).bind fun t540 => ((nat_Add.f kj5 l1 l2).bind fun t543 => ((nat_Add.f kj5 l0 t543).bind fun t546 => ((nat_Cmp.f kj5 t540 t546).bind fun t549 => (some (t549 == 0))))))) else (none))))) else (none)) = some r := H
                      have A23 := Aside0.mk A230
                      clear A230
                      by_cases c24 : t529 = 0
                      · rw [if_pos c24] at H
                        have c24b0 : (t529 == 0) = true := beq_iff_eq.mpr c24
                        have c24b1 : (t529 != 0) = false := bne_eq_false_iff_eq.mpr c24
                        clear c24
                        replace H := Option.bind_eq_some_iff.mp H
                        obtain ⟨t530, A250, H⟩ := H
                        replace H : ((nat_Add.f kj5 l1 l0).bind fun t533 => ((nat_Cmp.f kj5 t530 t533).bind fun t536 => (if t536 = 0 then ((nat_Add.f kj5 l0 l1).bind fun t537 => ((nat_Add.f kj5 t537 l2).bind fun t540 => ((nat_Add.f kj5 l1 l2).bind fun t543 => ((nat_Add.f kj5 l0 t543).bind fun t546 => ((nat_Cmp.f kj5 t540 t546).bind fun t549 => (some (t549 == 0))))))) else (none)))) = some r := H
                        have A25 := Aside0.mk A250
                        clear A250
                        replace H := Option.bind_eq_some_iff.mp H
                        obtain ⟨t533, A260, H⟩ := H
                        replace H : ((nat_Cmp.f kj5 t530 t533).bind fun t536 => (if t536 = 0 then ((nat_Add.f kj5 l0 l1).bind fun t537 => ((nat_Add.f kj5 t537 l2).bind fun t540 => ((nat_Add.f kj5 l1 l2).bind fun t543 => ((nat_Add.f kj5 l0 t543).bind fun t546 => ((nat_Cmp.f kj5 t540 t546).bind fun t549 => (some (t549 == 0))))))) else (none))) = some r := H
                        have A26 := Aside0.mk A260
                        clear A260
                        replace H := Option.bind_eq_some_iff.mp H
                        obtain ⟨t536, A270, H⟩ := H
                        replace H : (if t536 = 0 then ((nat_Add.f kj5 l0 l1).bind fun t537 => ((nat_Add.f kj5 t537 l2).bind fun t540 => ((nat_Add.f kj5 l1 l2).bind fun t543 => ((nat_Add.f kj5 l0 t543).bind fun t546 => ((nat_Cmp.f kj5 t540 t546).bind fun t549 => (some (t549 == 0))))))) else (none)) = some r := H
                        have A27 := Aside0.mk A270
                        clear A270
                        by_cases c28 : t536 = 0
                        · rw [if_pos c28] at H
                          have c28b0 : (t536 == 0) = true := beq_iff_eq.mpr c28
                          have c28b1 : (t536 != 0) = false := bne_eq_false_iff_eq.mpr c28
                          clear c28
                          replace H := Option.bind_eq_some_iff.mp H
                          obtain ⟨t537, A290, H⟩ := H
                          replace H : ((nat_Add.f kj5 t537 l2).bind fun t540 => ((nat_Add.f kj5 l1 l2).bind fun t543 => ((nat_Add.f kj5 l0 t543).bind fun t546 => ((nat_Cmp.f kj5 t540 t546).bind fun t549 => (some (t549 == 0)))))) = some r := H
                          have A29 := Aside0.mk A290
                          clear A290
                          replace H := Option.bind_eq_some_iff.mp H
                          obtain ⟨t540, A300, H⟩ := H
                          replace H : ((nat_Add.f kj5 l1 l2).bind fun t543 => ((nat_Add.f kj5 l0 t543).bind fun t546 => ((nat_Cmp.f kj5 t540 t546).bind fun t549 => (some (t549 == 0))))) = some r := H
                          have A30 := Aside0.mk A300
                          clear A300
                          replace H := Option.bind_eq_some_iff.mp H
                          obtain ⟨t543, A310, H⟩ := H
                          replace H : ((nat_Add.f kj5 l0 t543).bind fun t546 => ((nat_Cmp.f kj5 t540 t546).bind fun t549 => (some (t549 == 0)))) = some r := H
                          have A31 := Aside0.mk A310
                          clear A310
                          replace H := Option.bind_eq_some_iff.mp H
                          obtain ⟨t546, A320, H⟩ := H
                          replace H : ((nat_Cmp.f kj5 t540 t546).bind fun t549 => (some (t549 == 0))) = some r := H
                          have A32 := Aside0.mk A320
                          clear A320
                          replace H := Option.bind_eq_some_iff.mp H
                          obtain ⟨t549, A330, H⟩ := H
                          replace H : (some (t549 == 0)) = some r := H
                          have A33 := Aside0.mk A330
                          clear A330
                          obtain rfl := Option.some.inj H
                          have tok17 := Aside0.mk trivial; have tok16 := Aside0.mk trivial; have tok15 := Aside0.mk trivial; have tok14 := Aside0.mk trivial; have tok13 := Aside0.mk trivial; have tok12 := Aside0.mk trivial; have tok11 := Aside0.mk trivial; have tok10 := Aside0.mk trivial; have tok9 := Aside0.mk trivial; have tok8 := Aside0.mk trivial
                          go_wp2_with (first | ((with_reducible refine gate_callee (f := 12) rfl ?_); refine goesL_ (some 35) rfl rfl Try.func12 (by kernel_rfl) rfl #[.slice A0 l0.length c0, .slice A1 l1.length c1] rfl (by (try simp only [List.map_toArray, List.map_cons, List.map_nil]); first | done | rfl | (simp only [List.length_drop, List.length_take]; rfl)) ?_; (with_reducible refine (nat_Mul.calls kj5 (fun k_ => k_ < w.heap.size) _ _ l0 (fun k_ => k_ < w.heap.size) _ _ l1 t508 t511 _ ?side1 ?side2 A11.out).mono ?_); (case side1 => exact Kd.V_mk HC0.out (Kd.F_below (Kd.C_F (Kd.heap_int .u32) HR0.out) (by repeat (first | (with_reducible first | exact HB.out | apply below_alloc | apply pw_below_drewN | apply below_drew1) | exact HB.out)))); (case side2 => exact Kd.V_mk HC1.out (Kd.F_below (Kd.C_F (Kd.heap_int .u32) HR1.out) (by repeat (first | (with_reducible first | exact HB.out | apply below_alloc | apply pw_below_drewN | apply below_drew1) | exact HB.out)))); rintro e w34 ⟨v509, rfl, ho0, hb⟩; refine ⟨_, rfl, ?_⟩; have n0_ := Aside0.mk (Kd.V_lower (Kd.V_mono (ok' := fun k_ => True) ho0 (fun k_ hk_ => trivial)) (below_size (by repeat (first | (with_reducible first | exact HB.out | apply below_alloc | apply pw_below_drewN | apply below_drew1) | exact HB.out)))); have n1_ := Aside0.mk (below_step (by repeat (first | (with_reducible first | exact HB.out | apply below_alloc | apply pw_below_drewN | apply below_drew1) | exact HB.out)) hb); clear HB; have HO510 := n0_; have HB := n1_; clear n0_ n1_; (try clear hb); (try clear hb2); (try clear hk); (try clear hi); (try clear ho0)) | ((with_reducible refine gate_callee (f := 12) rfl ?_); refine goesL_ (some 41) rfl rfl Try.func12 (by kernel_rfl) rfl #[.slice A1 l1.length c1, .slice A0 l0.length c0] rfl (by (try simp only [List.map_toArray, List.map_cons, List.map_nil]); first | done | rfl | (simp only [List.length_drop, List.length_take]; rfl)) ?_; (with_reducible refine (nat_Mul.calls kj5 (fun k_ => k_ < w.heap.size) _ _ l1 (fun k_ => k_ < w.heap.size) _ _ l0 t512 t515 _ ?side1 ?side2 A12.out).mono ?_); (case side1 => exact Kd.V_mk HC1.out (Kd.F_below (Kd.C_F (Kd.heap_int .u32) HR1.out) (by repeat (first | (with_reducible first | exact HB.out | apply below_alloc | apply pw_below_drewN | apply below_drew1) | exact HB.out)))); (case side2 => exact Kd.V_mk HC0.out (Kd.F_below (Kd.C_F (Kd.heap_int .u32) HR0.out) (by repeat (first | (with_reducible first | exact HB.out | apply below_alloc | apply pw_below_drewN | apply below_drew1) | exact HB.out)))); rintro e w35 ⟨v513, rfl, ho0, hb⟩; refine ⟨_, rfl, ?_⟩; have n0_ := Aside0.mk (Kd.V_below (by (with_reducible repeat (first | apply Kd.V_alloc | apply Kd.V_drewN | apply Kd.V_drew)); exact HO510.out) hb); have n1_ := Aside0.mk (Kd.V_lower (Kd.V_mono (ok' := fun k_ => True) ho0 (fun k_ hk_ => trivial)) (below_size (by repeat (first | (with_reducible first | exact HB.out | apply below_alloc | apply pw_below_drewN | apply below_drew1) | exact HB.out)))); have n2_ := Aside0.mk (below_step (by repeat (first | (with_reducible first | exact HB.out | apply below_alloc | apply pw_below_drewN | apply below_drew1) | exact HB.out)) hb); clear HO510; clear HB; have HO510 := n0_; have HO514 := n1_; have HB := n2_; clear n0_ n1_ n2_; (try clear hb); (try clear hb2); (try clear hk); (try clear hi); (try clear ho0); obtain ⟨Ao36, co36, eo36⟩ := Kd.V_slice HO510.out; subst eo36) | ((with_reducible refine gate_callee (f := 12) rfl ?_); refine goesL_ (some 47) rfl rfl Try.func12 (by kernel_rfl) rfl #[.slice Ao36 t508.length co36, .slice A2 l2.length c2] rfl (by (try simp only [List.map_toArray, List.map_cons, List.map_nil]); first | done | rfl | (simp only [List.length_drop, List.length_take]; rfl)) ?_; (with_reducible refine (nat_Mul.calls kj5 (fun k_ => True) _ _ t508 (fun k_ => k_ < w.heap.size) _ _ l2 t516 t519 _ ?side1 ?side2 A13.out).mono ?_); (case side1 => exact HO510.out); (case side2 => exact Kd.V_mk HC2.out (Kd.F_below (Kd.C_F (Kd.heap_int .u32) HR2.out) (by repeat (first | (with_reducible first | exact HB.out | apply below_alloc | apply pw_below_drewN | apply below_drew1) | exact HB.out)))); rintro e w37 ⟨v517, rfl, ho0, hb⟩; refine ⟨_, rfl, ?_⟩; have n0_ := Aside0.mk (Kd.V_below (by (with_reducible repeat (first | apply Kd.V_alloc | apply Kd.V_drewN | apply Kd.V_drew)); exact HO510.out) hb); have n1_ := Aside0.mk (Kd.V_below (by (with_reducible repeat (first | apply Kd.V_alloc | apply Kd.V_drewN | apply Kd.V_drew)); exact HO514.out) hb); have n2_ := Aside0.mk (Kd.V_lower (Kd.V_mono (ok' := fun k_ => True) ho0 (fun k_ hk_ => trivial)) (below_size (by repeat (first | (with_reducible first | exact HB.out | apply below_alloc | apply pw_below_drewN | apply below_drew1) | exact HB.out)))); have n3_ := Aside0.mk (below_step (by repeat (first | (with_reducible first | exact HB.out | apply below_alloc | apply pw_below_drewN | apply below_drew1) | exact HB.out)) hb); clear HO510; clear HO514; clear HB; have HO510 := n0_; have HO514 := n1_; have HO518 := n2_; have HB := n3_; clear n0_ n1_ n2_ n3_; (try clear hb); (try clear hb2); (try clear hk); (try clear hi); (try clear ho0)) | ((with_reducible refine gate_callee (f := 12) rfl ?_); refine goesL_ (some 53) rfl rfl Try.func12 (by kernel_rfl) rfl #[.slice A1 l1.length c1, .slice A2 l2.length c2] rfl (by (try simp only [List.map_toArray, List.map_cons, List.map_nil]); first | done | rfl | (simp only [List.length_drop, List.length_take]; rfl)) ?_; (with_reducible refine (nat_Mul.calls kj5 (fun k_ => k_ < w.heap.size) _ _ l1 (fun k_ => k_ < w.heap.size) _ _ l2 t520 t523 _ ?side1 ?side2 A14.out).mono ?_); (case side1 => exact Kd.V_mk HC1.out (Kd.F_below (Kd.C_F (Kd.heap_int .u32) HR1.out) (by repeat (first | (with_reducible first | exact HB.out | apply below_alloc | apply pw_below_drewN | apply below_drew1) | exact HB.out)))); (case side2 => exact Kd.V_mk HC2.out (Kd.F_below (Kd.C_F (Kd.heap_int .u32) HR2.out) (by repeat (first | (with_reducible first | exact HB.out | apply below_alloc | apply pw_below_drewN | apply below_drew1) | exact HB.out)))); rintro e w38 ⟨v521, rfl, ho0, hb⟩; refine ⟨_, rfl, ?_⟩; have n0_ := Aside0.mk (Kd.V_below (by (with_reducible repeat (first | apply Kd.V_alloc | apply Kd.V_drewN | apply Kd.V_drew)); exact HO510.out) hb); have n1_ := Aside0.mk (Kd.V_below (by (with_reducible repeat (first | apply Kd.V_alloc | apply Kd.V_drewN | apply Kd.V_drew)); exact HO514.out) hb); have n2_ := Aside0.mk (Kd.V_below (by (with_reducible repeat (first | apply Kd.V_alloc | apply Kd.V_drewN | apply Kd.V_drew)); exact HO518.out) hb); have n3_ := Aside0.mk (Kd.V_lower (Kd.V_mono (ok' := fun k_ => True) ho0 (fun k_ hk_ => trivial)) (below_size (by repeat (first | (with_reducible first | exact HB.out | apply below_alloc | apply pw_below_drewN | apply below_drew1) | exact HB.out)))); have n4_ := Aside0.mk (below_step (by repeat (first | (with_reducible first | exact HB.out | apply below_alloc | apply pw_below_drewN | apply below_drew1) | exact HB.out)) hb); clear HO510; clear HO514; clear HO518; clear HB; have HO510 := n0_; have HO514 := n1_; have HO518 := n2_; have HO522 := n3_; have HB := n4_; clear n0_ n1_ n2_ n3_ n4_; (try clear hb); (try clear hb2); (try clear hk); (try clear hi); (try clear ho0); obtain ⟨Ao39, co39, eo39⟩ := Kd.V_slice HO522.out; subst eo39) | ((with_reducible refine gate_callee (f := 12) rfl ?_); refine goesL_ (some 59) rfl rfl Try.func12 (by kernel_rfl) rfl #[.slice A0 l0.length c0, .slice Ao39 t520.length co39] rfl (by (try simp only [List.map_toArray, List.map_cons, List.map_nil]); first | done | rfl | (simp only [List.length_drop, List.length_take]; rfl)) ?_; (with_reducible refine (nat_Mul.calls kj5 (fun k_ => k_ < w.heap.size) _ _ l0 (fun k_ => True) _ _ t520 t524 t527 _ ?side1 ?side2 A15.out).mono ?_); (case side1 => exact Kd.V_mk HC0.out (Kd.F_below (Kd.C_F (Kd.heap_int .u32) HR0.out) (by repeat (first | (with_reducible first | exact HB.out | apply below_alloc | apply pw_below_drewN | apply below_drew1) | exact HB.out)))); (case side2 => exact HO522.out); rintro e w40 ⟨v525, rfl, ho0, hb⟩; refine ⟨_, rfl, ?_⟩; have n0_ := Aside0.mk (Kd.V_below (by (with_reducible repeat (first | apply Kd.V_alloc | apply Kd.V_drewN | apply Kd.V_drew)); exact HO510.out) hb); have n1_ := Aside0.mk (Kd.V_below (by (with_reducible repeat (first | apply Kd.V_alloc | apply Kd.V_drewN | apply Kd.V_drew)); exact HO514.out) hb); have n2_ := Aside0.mk (Kd.V_below (by (with_reducible repeat (first | apply Kd.V_alloc | apply Kd.V_drewN | apply Kd.V_drew)); exact HO518.out) hb); have n3_ := Aside0.mk (Kd.V_below (by (with_reducible repeat (first | apply Kd.V_alloc | apply Kd.V_drewN | apply Kd.V_drew)); exact HO522.out) hb); have n4_ := Aside0.mk (Kd.V_lower (Kd.V_mono (ok' := fun k_ => True) ho0 (fun k_ hk_ => trivial)) (below_size (by repeat (first | (with_reducible first | exact HB.out | apply below_alloc | apply pw_below_drewN | apply below_drew1) | exact HB.out)))); have n5_ := Aside0.mk (below_step (by repeat (first | (with_reducible first | exact HB.out | apply below_alloc | apply pw_below_drewN | apply below_drew1) | exact HB.out)) hb); clear HO510; clear HO514; clear HO518; clear HO522; clear HB; have HO510 := n0_; have HO514 := n1_; have HO518 := n2_; have HO522 := n3_; have HO526 := n4_; have HB := n5_; clear n0_ n1_ n2_ n3_ n4_ n5_; (try clear hb); (try clear hb2); (try clear hk); (try clear hi); (try clear ho0); obtain ⟨Ao41, co41, eo41⟩ := Kd.V_slice HO514.out; subst eo41) | (go_at_call 20; clear tok17; (with_reducible refine (nat_Cmp.calls kj5 _ _ t508 _ _ t512 t528 _ ?side1 ?side2 ?side3 ?side4 A21.out).mono ?_); (case side1 => repeat (first | exact (Kd.V_reads' HO510.out).2.2 | (with_reducible refine Kd.C_alloc ?_ _) | (with_reducible refine Kd.C_drewN ?_ _) | (with_reducible refine Kd.C_drew ?_))); (case side2 => exact (Kd.V_reads' HO510.out).2.1); (case side3 => repeat (first | exact (Kd.V_reads' HO514.out).2.2 | (with_reducible refine Kd.C_alloc ?_ _) | (with_reducible refine Kd.C_drewN ?_ _) | (with_reducible refine Kd.C_drew ?_))); (case side4 => exact (Kd.V_reads' HO514.out).2.1); rintro e w42 ⟨rfl, hb⟩; have n0_ := Aside0.mk (Kd.V_below (by (with_reducible repeat (first | apply Kd.V_alloc | apply Kd.V_drewN | apply Kd.V_drew)); exact HO510.out) hb); have n1_ := Aside0.mk (Kd.V_below (by (with_reducible repeat (first | apply Kd.V_alloc | apply Kd.V_drewN | apply Kd.V_drew)); exact HO514.out) hb); have n2_ := Aside0.mk (Kd.V_below (by (with_reducible repeat (first | apply Kd.V_alloc | apply Kd.V_drewN | apply Kd.V_drew)); exact HO518.out) hb); have n3_ := Aside0.mk (Kd.V_below (by (with_reducible repeat (first | apply Kd.V_alloc | apply Kd.V_drewN | apply Kd.V_drew)); exact HO522.out) hb); have n4_ := Aside0.mk (Kd.V_below (by (with_reducible repeat (first | apply Kd.V_alloc | apply Kd.V_drewN | apply Kd.V_drew)); exact HO526.out) hb); have n5_ := Aside0.mk (below_step (by repeat (first | (with_reducible first | exact HB.out | apply below_alloc | apply pw_below_drewN | apply below_drew1) | exact HB.out)) hb); clear HO510; clear HO514; clear HO518; clear HO522; clear HO526; clear HB; have HO510 := n0_; have HO514 := n1_; have HO518 := n2_; have HO522 := n3_; have HO526 := n4_; have HB := n5_; clear n0_ n1_ n2_ n3_ n4_ n5_; (try clear hb); (try clear hb2); (try clear hk); (try clear hi); obtain ⟨Ao43, co43, eo43⟩ := Kd.V_slice HO518.out; subst eo43; obtain ⟨Ao44, co44, eo44⟩ := Kd.V_slice HO526.out; subst eo44) | (go_at_call 20; clear tok16; (with_reducible refine (nat_Cmp.calls kj5 _ _ t516 _ _ t524 t529 _ ?side1 ?side2 ?side3 ?side4 A23.out).mono ?_); (case side1 => repeat (first | exact (Kd.V_reads' HO518.out).2.2 | (with_reducible refine Kd.C_alloc ?_ _) | (with_reducible refine Kd.C_drewN ?_ _) | (with_reducible refine Kd.C_drew ?_))); (case side2 => exact (Kd.V_reads' HO518.out).2.1); (case side3 => repeat (first | exact (Kd.V_reads' HO526.out).2.2 | (with_reducible refine Kd.C_alloc ?_ _) | (with_reducible refine Kd.C_drewN ?_ _) | (with_reducible refine Kd.C_drew ?_))); (case side4 => exact (Kd.V_reads' HO526.out).2.1); rintro e w45 ⟨rfl, hb⟩; have n0_ := Aside0.mk (Kd.V_below (by (with_reducible repeat (first | apply Kd.V_alloc | apply Kd.V_drewN | apply Kd.V_drew)); exact HO510.out) hb); have n1_ := Aside0.mk (Kd.V_below (by (with_reducible repeat (first | apply Kd.V_alloc | apply Kd.V_drewN | apply Kd.V_drew)); exact HO514.out) hb); have n2_ := Aside0.mk (Kd.V_below (by (with_reducible repeat (first | apply Kd.V_alloc | apply Kd.V_drewN | apply Kd.V_drew)); exact HO518.out) hb); have n3_ := Aside0.mk (Kd.V_below (by (with_reducible repeat (first | apply Kd.V_alloc | apply Kd.V_drewN | apply Kd.V_drew)); exact HO522.out) hb); have n4_ := Aside0.mk (Kd.V_below (by (with_reducible repeat (first | apply Kd.V_alloc | apply Kd.V_drewN | apply Kd.V_drew)); exact HO526.out) hb); have n5_ := Aside0.mk (below_step (by repeat (first | (with_reducible first | exact HB.out | apply below_alloc | apply pw_below_drewN | apply below_drew1) | exact HB.out)) hb); clear HO510; clear HO514; clear HO518; clear HO522; clear HO526; clear HB; have HO510 := n0_; have HO514 := n1_; have HO518 := n2_; have HO522 := n3_; have HO526 := n4_; have HB := n5_; clear n0_ n1_ n2_ n3_ n4_ n5_; (try clear hb); (try clear hb2); (try clear hk); (try clear hi)) | (go_at_call 18; clear tok15; (with_reducible refine (nat_Add.calls kj5 _ _ l0 _ _ l1 t530 _ ?side1 ?side2 ?side3 ?side4 A25.out).mono ?_); (case side1 => repeat (first | exact (Kd.C_below HR0.out HB.out) | (with_reducible refine Kd.C_alloc ?_ _) | (with_reducible refine Kd.C_drewN ?_ _) | (with_reducible refine Kd.C_drew ?_))); (case side2 => exact HC0.out); (case side3 => repeat (first | exact (Kd.C_below HR1.out HB.out) | (with_reducible refine Kd.C_alloc ?_ _) | (with_reducible refine Kd.C_drewN ?_ _) | (with_reducible refine Kd.C_drew ?_))); (case side4 => exact HC1.out); rintro e w46 ⟨v531, rfl, ho0, hb⟩; have n0_ := Aside0.mk (Kd.V_below (by (with_reducible repeat (first | apply Kd.V_alloc | apply Kd.V_drewN | apply Kd.V_drew)); exact HO510.out) hb); have n1_ := Aside0.mk (Kd.V_below (by (with_reducible repeat (first | apply Kd.V_alloc | apply Kd.V_drewN | apply Kd.V_drew)); exact HO514.out) hb); have n2_ := Aside0.mk (Kd.V_below (by (with_reducible repeat (first | apply Kd.V_alloc | apply Kd.V_drewN | apply Kd.V_drew)); exact HO518.out) hb); have n3_ := Aside0.mk (Kd.V_below (by (with_reducible repeat (first | apply Kd.V_alloc | apply Kd.V_drewN | apply Kd.V_drew)); exact HO522.out) hb); have n4_ := Aside0.mk (Kd.V_below (by (with_reducible repeat (first | apply Kd.V_alloc | apply Kd.V_drewN | apply Kd.V_drew)); exact HO526.out) hb); have n5_ := Aside0.mk (Kd.V_lower (Kd.V_mono (ok' := fun k_ => True) ho0 (fun k_ hk_ => trivial)) (below_size (by repeat (first | (with_reducible first | exact HB.out | apply below_alloc | apply pw_below_drewN | apply below_drew1) | exact HB.out)))); have n6_ := Aside0.mk (below_step (by repeat (first | (with_reducible first | exact HB.out | apply below_alloc | apply pw_below_drewN | apply below_drew1) | exact HB.out)) hb); clear HO510; clear HO514; clear HO518; clear HO522; clear HO526; clear HB; have HO510 := n0_; have HO514 := n1_; have HO518 := n2_; have HO522 := n3_; have HO526 := n4_; have HO532 := n5_; have HB := n6_; clear n0_ n1_ n2_ n3_ n4_ n5_ n6_; (try clear hb); (try clear hb2); (try clear hk); (try clear hi); (try clear ho0)) | (go_at_call 18; clear tok14; (with_reducible refine (nat_Add.calls kj5 _ _ l1 _ _ l0 t533 _ ?side1 ?side2 ?side3 ?side4 A26.out).mono ?_); (case side1 => repeat (first | exact (Kd.C_below HR1.out HB.out) | (with_reducible refine Kd.C_alloc ?_ _) | (with_reducible refine Kd.C_drewN ?_ _) | (with_reducible refine Kd.C_drew ?_))); (case side2 => exact HC1.out); (case side3 => repeat (first | exact (Kd.C_below HR0.out HB.out) | (with_reducible refine Kd.C_alloc ?_ _) | (with_reducible refine Kd.C_drewN ?_ _) | (with_reducible refine Kd.C_drew ?_))); (case side4 => exact HC0.out); rintro e w47 ⟨v534, rfl, ho0, hb⟩; have n0_ := Aside0.mk (Kd.V_below (by (with_reducible repeat (first | apply Kd.V_alloc | apply Kd.V_drewN | apply Kd.V_drew)); exact HO510.out) hb); have n1_ := Aside0.mk (Kd.V_below (by (with_reducible repeat (first | apply Kd.V_alloc | apply Kd.V_drewN | apply Kd.V_drew)); exact HO514.out) hb); have n2_ := Aside0.mk (Kd.V_below (by (with_reducible repeat (first | apply Kd.V_alloc | apply Kd.V_drewN | apply Kd.V_drew)); exact HO518.out) hb); have n3_ := Aside0.mk (Kd.V_below (by (with_reducible repeat (first | apply Kd.V_alloc | apply Kd.V_drewN | apply Kd.V_drew)); exact HO522.out) hb); have n4_ := Aside0.mk (Kd.V_below (by (with_reducible repeat (first | apply Kd.V_alloc | apply Kd.V_drewN | apply Kd.V_drew)); exact HO526.out) hb); have n5_ := Aside0.mk (Kd.V_below (by (with_reducible repeat (first | apply Kd.V_alloc | apply Kd.V_drewN | apply Kd.V_drew)); exact HO532.out) hb); have n6_ := Aside0.mk (Kd.V_lower (Kd.V_mono (ok' := fun k_ => True) ho0 (fun k_ hk_ => trivial)) (below_size (by repeat (first | (with_reducible first | exact HB.out | apply below_alloc | apply pw_below_drewN | apply below_drew1) | exact HB.out)))); have n7_ := Aside0.mk (below_step (by repeat (first | (with_reducible first | exact HB.out | apply below_alloc | apply pw_below_drewN | apply below_drew1) | exact HB.out)) hb); clear HO510; clear HO514; clear HO518; clear HO522; clear HO526; clear HO532; clear HB; have HO510 := n0_; have HO514 := n1_; have HO518 := n2_; have HO522 := n3_; have HO526 := n4_; have HO532 := n5_; have HO535 := n6_; have HB := n7_; clear n0_ n1_ n2_ n3_ n4_ n5_ n6_ n7_; (try clear hb); (try clear hb2); (try clear hk); (try clear hi); (try clear ho0); obtain ⟨Ao48, co48, eo48⟩ := Kd.V_slice HO532.out; subst eo48; obtain ⟨Ao49, co49, eo49⟩ := Kd.V_slice HO535.out; subst eo49) | (go_at_call 20; clear tok13; (with_reducible refine (nat_Cmp.calls kj5 _ _ t530 _ _ t533 t536 _ ?side1 ?side2 ?side3 ?side4 A27.out).mono ?_); (case side1 => repeat (first | exact (Kd.V_reads' HO532.out).2.2 | (with_reducible refine Kd.C_alloc ?_ _) | (with_reducible refine Kd.C_drewN ?_ _) | (with_reducible refine Kd.C_drew ?_))); (case side2 => exact (Kd.V_reads' HO532.out).2.1); (case side3 => repeat (first | exact (Kd.V_reads' HO535.out).2.2 | (with_reducible refine Kd.C_alloc ?_ _) | (with_reducible refine Kd.C_drewN ?_ _) | (with_reducible refine Kd.C_drew ?_))); (case side4 => exact (Kd.V_reads' HO535.out).2.1); rintro e w50 ⟨rfl, hb⟩; have n0_ := Aside0.mk (Kd.V_below (by (with_reducible repeat (first | apply Kd.V_alloc | apply Kd.V_drewN | apply Kd.V_drew)); exact HO510.out) hb); have n1_ := Aside0.mk (Kd.V_below (by (with_reducible repeat (first | apply Kd.V_alloc | apply Kd.V_drewN | apply Kd.V_drew)); exact HO514.out) hb); have n2_ := Aside0.mk (Kd.V_below (by (with_reducible repeat (first | apply Kd.V_alloc | apply Kd.V_drewN | apply Kd.V_drew)); exact HO518.out) hb); have n3_ := Aside0.mk (Kd.V_below (by (with_reducible repeat (first | apply Kd.V_alloc | apply Kd.V_drewN | apply Kd.V_drew)); exact HO522.out) hb); have n4_ := Aside0.mk (Kd.V_below (by (with_reducible repeat (first | apply Kd.V_alloc | apply Kd.V_drewN | apply Kd.V_drew)); exact HO526.out) hb); have n5_ := Aside0.mk (Kd.V_below (by (with_reducible repeat (first | apply Kd.V_alloc | apply Kd.V_drewN | apply Kd.V_drew)); exact HO532.out) hb); have n6_ := Aside0.mk (Kd.V_below (by (with_reducible repeat (first | apply Kd.V_alloc | apply Kd.V_drewN | apply Kd.V_drew)); exact HO535.out) hb); have n7_ := Aside0.mk (below_step (by repeat (first | (with_reducible first | exact HB.out | apply below_alloc | apply pw_below_drewN | apply below_drew1) | exact HB.out)) hb); clear HO510; clear HO514; clear HO518; clear HO522; clear HO526; clear HO532; clear HO535; clear HB; have HO510 := n0_; have HO514 := n1_; have HO518 := n2_; have HO522 := n3_; have HO526 := n4_; have HO532 := n5_; have HO535 := n6_; have HB := n7_; clear n0_ n1_ n2_ n3_ n4_ n5_ n6_ n7_; (try clear hb); (try clear hb2); (try clear hk); (try clear hi)) | (go_at_call 18; clear tok12; (with_reducible refine (nat_Add.calls kj5 _ _ l0 _ _ l1 t537 _ ?side1 ?side2 ?side3 ?side4 A29.out).mono ?_); (case side1 => repeat (first | exact (Kd.C_below HR0.out HB.out) | (with_reducible refine Kd.C_alloc ?_ _) | (with_reducible refine Kd.C_drewN ?_ _) | (with_reducible refine Kd.C_drew ?_))); (case side2 => exact HC0.out); (case side3 => repeat (first | exact (Kd.C_below HR1.out HB.out) | (with_reducible refine Kd.C_alloc ?_ _) | (with_reducible refine Kd.C_drewN ?_ _) | (with_reducible refine Kd.C_drew ?_))); (case side4 => exact HC1.out); rintro e w51 ⟨v538, rfl, ho0, hb⟩; have n0_ := Aside0.mk (Kd.V_below (by (with_reducible repeat (first | apply Kd.V_alloc | apply Kd.V_drewN | apply Kd.V_drew)); exact HO510.out) hb); have n1_ := Aside0.mk (Kd.V_below (by (with_reducible repeat (first | apply Kd.V_alloc | apply Kd.V_drewN | apply Kd.V_drew)); exact HO514.out) hb); have n2_ := Aside0.mk (Kd.V_below (by (with_reducible repeat (first | apply Kd.V_alloc | apply Kd.V_drewN | apply Kd.V_drew)); exact HO518.out) hb); have n3_ := Aside0.mk (Kd.V_below (by (with_reducible repeat (first | apply Kd.V_alloc | apply Kd.V_drewN | apply Kd.V_drew)); exact HO522.out) hb); have n4_ := Aside0.mk (Kd.V_below (by (with_reducible repeat (first | apply Kd.V_alloc | apply Kd.V_drewN | apply Kd.V_drew)); exact HO526.out) hb); have n5_ := Aside0.mk (Kd.V_below (by (with_reducible repeat (first | apply Kd.V_alloc | apply Kd.V_drewN | apply Kd.V_drew)); exact HO532.out) hb); have n6_ := Aside0.mk (Kd.V_below (by (with_reducible repeat (first | apply Kd.V_alloc | apply Kd.V_drewN | apply Kd.V_drew)); exact HO535.out) hb); have n7_ := Aside0.mk (Kd.V_lower (Kd.V_mono (ok' := fun k_ => True) ho0 (fun k_ hk_ => trivial)) (below_size (by repeat (first | (with_reducible first | exact HB.out | apply below_alloc | apply pw_below_drewN | apply below_drew1) | exact HB.out)))); have n8_ := Aside0.mk (below_step (by repeat (first | (with_reducible first | exact HB.out | apply below_alloc | apply pw_below_drewN | apply below_drew1) | exact HB.out)) hb); clear HO510; clear HO514; clear HO518; clear HO522; clear HO526; clear HO532; clear HO535; clear HB; have HO510 := n0_; have HO514 := n1_; have HO518 := n2_; have HO522 := n3_; have HO526 := n4_; have HO532 := n5_; have HO535 := n6_; have HO539 := n7_; have HB := n8_; clear n0_ n1_ n2_ n3_ n4_ n5_ n6_ n7_ n8_; (try clear hb); (try clear hb2); (try clear hk); (try clear hi); (try clear ho0); obtain ⟨Ao52, co52, eo52⟩ := Kd.V_slice HO539.out; subst eo52) | (go_at_call 18; clear tok11; (with_reducible refine (nat_Add.calls kj5 _ _ t537 _ _ l2 t540 _ ?side1 ?side2 ?side3 ?side4 A30.out).mono ?_); (case side1 => repeat (first | exact (Kd.V_reads' HO539.out).2.2 | (with_reducible refine Kd.C_alloc ?_ _) | (with_reducible refine Kd.C_drewN ?_ _) | (with_reducible refine Kd.C_drew ?_))); (case side2 => exact (Kd.V_reads' HO539.out).2.1); (case side3 => repeat (first | exact (Kd.C_below HR2.out HB.out) | (with_reducible refine Kd.C_alloc ?_ _) | (with_reducible refine Kd.C_drewN ?_ _) | (with_reducible refine Kd.C_drew ?_))); (case side4 => exact HC2.out); rintro e w53 ⟨v541, rfl, ho0, hb⟩; have n0_ := Aside0.mk (Kd.V_below (by (with_reducible repeat (first | apply Kd.V_alloc | apply Kd.V_drewN | apply Kd.V_drew)); exact HO510.out) hb); have n1_ := Aside0.mk (Kd.V_below (by (with_reducible repeat (first | apply Kd.V_alloc | apply Kd.V_drewN | apply Kd.V_drew)); exact HO514.out) hb); have n2_ := Aside0.mk (Kd.V_below (by (with_reducible repeat (first | apply Kd.V_alloc | apply Kd.V_drewN | apply Kd.V_drew)); exact HO518.out) hb); have n3_ := Aside0.mk (Kd.V_below (by (with_reducible repeat (first | apply Kd.V_alloc | apply Kd.V_drewN | apply Kd.V_drew)); exact HO522.out) hb); have n4_ := Aside0.mk (Kd.V_below (by (with_reducible repeat (first | apply Kd.V_alloc | apply Kd.V_drewN | apply Kd.V_drew)); exact HO526.out) hb); have n5_ := Aside0.mk (Kd.V_below (by (with_reducible repeat (first | apply Kd.V_alloc | apply Kd.V_drewN | apply Kd.V_drew)); exact HO532.out) hb); have n6_ := Aside0.mk (Kd.V_below (by (with_reducible repeat (first | apply Kd.V_alloc | apply Kd.V_drewN | apply Kd.V_drew)); exact HO535.out) hb); have n7_ := Aside0.mk (Kd.V_below (by (with_reducible repeat (first | apply Kd.V_alloc | apply Kd.V_drewN | apply Kd.V_drew)); exact HO539.out) hb); have n8_ := Aside0.mk (Kd.V_lower (Kd.V_mono (ok' := fun k_ => True) ho0 (fun k_ hk_ => trivial)) (below_size (by repeat (first | (with_reducible first | exact HB.out | apply below_alloc | apply pw_below_drewN | apply below_drew1) | exact HB.out)))); have n9_ := Aside0.mk (below_step (by repeat (first | (with_reducible first | exact HB.out | apply below_alloc | apply pw_below_drewN | apply below_drew1) | exact HB.out)) hb); clear HO510; clear HO514; clear HO518; clear HO522; clear HO526; clear HO532; clear HO535; clear HO539; clear HB; have HO510 := n0_; have HO514 := n1_; have HO518 := n2_; have HO522 := n3_; have HO526 := n4_; have HO532 := n5_; have HO535 := n6_; have HO539 := n7_; have HO542 := n8_; have HB := n9_; clear n0_ n1_ n2_ n3_ n4_ n5_ n6_ n7_ n8_ n9_; (try clear hb); (try clear hb2); (try clear hk); (try clear hi); (try clear ho0)) | (go_at_call 18; clear tok10; (with_reducible refine (nat_Add.calls kj5 _ _ l1 _ _ l2 t543 _ ?side1 ?side2 ?side3 ?side4 A31.out).mono ?_); (case side1 => repeat (first | exact (Kd.C_below HR1.out HB.out) | (with_reducible refine Kd.C_alloc ?_ _) | (with_reducible refine Kd.C_drewN ?_ _) | (with_reducible refine Kd.C_drew ?_))); (case side2 => exact HC1.out); (case side3 => repeat (first | exact (Kd.C_below HR2.out HB.out) | (with_reducible refine Kd.C_alloc ?_ _) | (with_reducible refine Kd.C_drewN ?_ _) | (with_reducible refine Kd.C_drew ?_))); (case side4 => exact HC2.out); rintro e w54 ⟨v544, rfl, ho0, hb⟩; have n0_ := Aside0.mk (Kd.V_below (by (with_reducible repeat (first | apply Kd.V_alloc | apply Kd.V_drewN | apply Kd.V_drew)); exact HO510.out) hb); have n1_ := Aside0.mk (Kd.V_below (by (with_reducible repeat (first | apply Kd.V_alloc | apply Kd.V_drewN | apply Kd.V_drew)); exact HO514.out) hb); have n2_ := Aside0.mk (Kd.V_below (by (with_reducible repeat (first | apply Kd.V_alloc | apply Kd.V_drewN | apply Kd.V_drew)); exact HO518.out) hb); have n3_ := Aside0.mk (Kd.V_below (by (with_reducible repeat (first | apply Kd.V_alloc | apply Kd.V_drewN | apply Kd.V_drew)); exact HO522.out) hb); have n4_ := Aside0.mk (Kd.V_below (by (with_reducible repeat (first | apply Kd.V_alloc | apply Kd.V_drewN | apply Kd.V_drew)); exact HO526.out) hb); have n5_ := Aside0.mk (Kd.V_below (by (with_reducible repeat (first | apply Kd.V_alloc | apply Kd.V_drewN | apply Kd.V_drew)); exact HO532.out) hb); have n6_ := Aside0.mk (Kd.V_below (by (with_reducible repeat (first | apply Kd.V_alloc | apply Kd.V_drewN | apply Kd.V_drew)); exact HO535.out) hb); have n7_ := Aside0.mk (Kd.V_below (by (with_reducible repeat (first | apply Kd.V_alloc | apply Kd.V_drewN | apply Kd.V_drew)); exact HO539.out) hb); have n8_ := Aside0.mk (Kd.V_below (by (with_reducible repeat (first | apply Kd.V_alloc | apply Kd.V_drewN | apply Kd.V_drew)); exact HO542.out) hb); have n9_ := Aside0.mk (Kd.V_lower (Kd.V_mono (ok' := fun k_ => True) ho0 (fun k_ hk_ => trivial)) (below_size (by repeat (first | (with_reducible first | exact HB.out | apply below_alloc | apply pw_below_drewN | apply below_drew1) | exact HB.out)))); have n10_ := Aside0.mk (below_step (by repeat (first | (with_reducible first | exact HB.out | apply below_alloc | apply pw_below_drewN | apply below_drew1) | exact HB.out)) hb); clear HO510; clear HO514; clear HO518; clear HO522; clear HO526; clear HO532; clear HO535; clear HO539; clear HO542; clear HB; have HO510 := n0_; have HO514 := n1_; have HO518 := n2_; have HO522 := n3_; have HO526 := n4_; have HO532 := n5_; have HO535 := n6_; have HO539 := n7_; have HO542 := n8_; have HO545 := n9_; have HB := n10_; clear n0_ n1_ n2_ n3_ n4_ n5_ n6_ n7_ n8_ n9_ n10_; (try clear hb); (try clear hb2); (try clear hk); (try clear hi); (try clear ho0); obtain ⟨Ao55, co55, eo55⟩ := Kd.V_slice HO545.out; subst eo55) | (go_at_call 18; clear tok9; (with_reducible refine (nat_Add.calls kj5 _ _ l0 _ _ t543 t546 _ ?side1 ?side2 ?side3 ?side4 A32.out).mono ?_); (case side1 => repeat (first | exact (Kd.C_below HR0.out HB.out) | (with_reducible refine Kd.C_alloc ?_ _) | (with_reducible refine Kd.C_drewN ?_ _) | (with_reducible refine Kd.C_drew ?_))); (case side2 => exact HC0.out); (case side3 => repeat (first | exact (Kd.V_reads' HO545.out).2.2 | (with_reducible refine Kd.C_alloc ?_ _) | (with_reducible refine Kd.C_drewN ?_ _) | (with_reducible refine Kd.C_drew ?_))); (case side4 => exact (Kd.V_reads' HO545.out).2.1); rintro e w56 ⟨v547, rfl, ho0, hb⟩; have n0_ := Aside0.mk (Kd.V_below (by (with_reducible repeat (first | apply Kd.V_alloc | apply Kd.V_drewN | apply Kd.V_drew)); exact HO510.out) hb); have n1_ := Aside0.mk (Kd.V_below (by (with_reducible repeat (first | apply Kd.V_alloc | apply Kd.V_drewN | apply Kd.V_drew)); exact HO514.out) hb); have n2_ := Aside0.mk (Kd.V_below (by (with_reducible repeat (first | apply Kd.V_alloc | apply Kd.V_drewN | apply Kd.V_drew)); exact HO518.out) hb); have n3_ := Aside0.mk (Kd.V_below (by (with_reducible repeat (first | apply Kd.V_alloc | apply Kd.V_drewN | apply Kd.V_drew)); exact HO522.out) hb); have n4_ := Aside0.mk (Kd.V_below (by (with_reducible repeat (first | apply Kd.V_alloc | apply Kd.V_drewN | apply Kd.V_drew)); exact HO526.out) hb); have n5_ := Aside0.mk (Kd.V_below (by (with_reducible repeat (first | apply Kd.V_alloc | apply Kd.V_drewN | apply Kd.V_drew)); exact HO532.out) hb); have n6_ := Aside0.mk (Kd.V_below (by (with_reducible repeat (first | apply Kd.V_alloc | apply Kd.V_drewN | apply Kd.V_drew)); exact HO535.out) hb); have n7_ := Aside0.mk (Kd.V_below (by (with_reducible repeat (first | apply Kd.V_alloc | apply Kd.V_drewN | apply Kd.V_drew)); exact HO539.out) hb); have n8_ := Aside0.mk (Kd.V_below (by (with_reducible repeat (first | apply Kd.V_alloc | apply Kd.V_drewN | apply Kd.V_drew)); exact HO542.out) hb); have n9_ := Aside0.mk (Kd.V_below (by (with_reducible repeat (first | apply Kd.V_alloc | apply Kd.V_drewN | apply Kd.V_drew)); exact HO545.out) hb); have n10_ := Aside0.mk (Kd.V_lower (Kd.V_mono (ok' := fun k_ => True) ho0 (fun k_ hk_ => trivial)) (below_size (by repeat (first | (with_reducible first | exact HB.out | apply below_alloc | apply pw_below_drewN | apply below_drew1) | exact HB.out)))); have n11_ := Aside0.mk (below_step (by repeat (first | (with_reducible first | exact HB.out | apply below_alloc | apply pw_below_drewN | apply below_drew1) | exact HB.out)) hb); clear HO510; clear HO514; clear HO518; clear HO522; clear HO526; clear HO532; clear HO535; clear HO539; clear HO542; clear HO545; clear HB; have HO510 := n0_; have HO514 := n1_; have HO518 := n2_; have HO522 := n3_; have HO526 := n4_; have HO532 := n5_; have HO535 := n6_; have HO539 := n7_; have HO542 := n8_; have HO545 := n9_; have HO548 := n10_; have HB := n11_; clear n0_ n1_ n2_ n3_ n4_ n5_ n6_ n7_ n8_ n9_ n10_ n11_; (try clear hb); (try clear hb2); (try clear hk); (try clear hi); (try clear ho0); obtain ⟨Ao57, co57, eo57⟩ := Kd.V_slice HO542.out; subst eo57; obtain ⟨Ao58, co58, eo58⟩ := Kd.V_slice HO548.out; subst eo58) | (go_at_call 20; clear tok8; (with_reducible refine (nat_Cmp.calls kj5 _ _ t540 _ _ t546 t549 _ ?side1 ?side2 ?side3 ?side4 A33.out).mono ?_); (case side1 => repeat (first | exact (Kd.V_reads' HO542.out).2.2 | (with_reducible refine Kd.C_alloc ?_ _) | (with_reducible refine Kd.C_drewN ?_ _) | (with_reducible refine Kd.C_drew ?_))); (case side2 => exact (Kd.V_reads' HO542.out).2.1); (case side3 => repeat (first | exact (Kd.V_reads' HO548.out).2.2 | (with_reducible refine Kd.C_alloc ?_ _) | (with_reducible refine Kd.C_drewN ?_ _) | (with_reducible refine Kd.C_drew ?_))); (case side4 => exact (Kd.V_reads' HO548.out).2.1); rintro e w59 ⟨rfl, hb⟩; have n0_ := Aside0.mk (Kd.V_below (by (with_reducible repeat (first | apply Kd.V_alloc | apply Kd.V_drewN | apply Kd.V_drew)); exact HO510.out) hb); have n1_ := Aside0.mk (Kd.V_below (by (with_reducible repeat (first | apply Kd.V_alloc | apply Kd.V_drewN | apply Kd.V_drew)); exact HO514.out) hb); have n2_ := Aside0.mk (Kd.V_below (by (with_reducible repeat (first | apply Kd.V_alloc | apply Kd.V_drewN | apply Kd.V_drew)); exact HO518.out) hb); have n3_ := Aside0.mk (Kd.V_below (by (with_reducible repeat (first | apply Kd.V_alloc | apply Kd.V_drewN | apply Kd.V_drew)); exact HO522.out) hb); have n4_ := Aside0.mk (Kd.V_below (by (with_reducible repeat (first | apply Kd.V_alloc | apply Kd.V_drewN | apply Kd.V_drew)); exact HO526.out) hb); have n5_ := Aside0.mk (Kd.V_below (by (with_reducible repeat (first | apply Kd.V_alloc | apply Kd.V_drewN | apply Kd.V_drew)); exact HO532.out) hb); have n6_ := Aside0.mk (Kd.V_below (by (with_reducible repeat (first | apply Kd.V_alloc | apply Kd.V_drewN | apply Kd.V_drew)); exact HO535.out) hb); have n7_ := Aside0.mk (Kd.V_below (by (with_reducible repeat (first | apply Kd.V_alloc | apply Kd.V_drewN | apply Kd.V_drew)); exact HO539.out) hb); have n8_ := Aside0.mk (Kd.V_below (by (with_reducible repeat (first | apply Kd.V_alloc | apply Kd.V_drewN | apply Kd.V_drew)); exact HO542.out) hb); have n9_ := Aside0.mk (Kd.V_below (by (with_reducible repeat (first | apply Kd.V_alloc | apply Kd.V_drewN | apply Kd.V_drew)); exact HO545.out) hb); have n10_ := Aside0.mk (Kd.V_below (by (with_reducible repeat (first | apply Kd.V_alloc | apply Kd.V_drewN | apply Kd.V_drew)); exact HO548.out) hb); have n11_ := Aside0.mk (below_step (by repeat (first | (with_reducible first | exact HB.out | apply below_alloc | apply pw_below_drewN | apply below_drew1) | exact HB.out)) hb); clear HO510; clear HO514; clear HO518; clear HO522; clear HO526; clear HO532; clear HO535; clear HO539; clear HO542; clear HO545; clear HO548; clear HB; have HO510 := n0_; have HO514 := n1_; have HO518 := n2_; have HO522 := n3_; have HO526 := n4_; have HO532 := n5_; have HO535 := n6_; have HO539 := n7_; have HO542 := n8_; have HO545 := n9_; have HO548 := n10_; have HB := n11_; clear n0_ n1_ n2_ n3_ n4_ n5_ n6_ n7_ n8_ n9_ n10_ n11_; (try clear hb); (try clear hb2); (try clear hk); (try clear hi)))
                          go_ret
                          exact ⟨by first | rfl | (simp [errW_none, errW_some] <;> rfl) | (simp [*, errW_none, errW_some] <;> rfl), by repeat (first | (with_reducible first | exact HB.out | apply below_alloc | apply pw_below_drewN | apply below_drew1) | exact HB.out)⟩
                        · rw [if_neg c28] at H
                          exact absurd H (by simp)
                      · rw [if_neg c24] at H
                        exact absurd H (by simp)
                    · rw [if_neg c22] at H
                      exact absurd H (by simp)
                  · rw [if_neg c20] at H
                    exact absurd H (by simp)
                · rw [if_neg c19] at H
                  exact absurd H (by simp)
              · rw [if_neg c18] at H
                exact absurd H (by simp)
            · rw [if_neg c17] at H
              exact absurd H (by simp)
          · rw [if_neg c16] at H
            exact absurd H (by simp)
  · replace c5 := Bool.eq_false_iff.mpr c5
    subst c5
    have H1 : (none) = some r := by rw [if_neg (show ¬ (false = true) by decide)] at H; exact H
    clear H
    have H := H1
    clear H1
    exact absurd H (by simp)

/-- THE ONE PURE STATEMENT of slipsticklaw01_NatTurned: yours. -/
def slipsticklaw01_NatTurned.Pure : Prop := ∀ (l0 : List Int) (l1 : List Int) (l2 : List Int), l0.length ≤ maxLen → l0.length * 4 ≤ 140737488351232 → (∀ x ∈ l0, (Lit.int .u32 x).wf = true) → l1.length ≤ maxLen → l1.length * 4 ≤ 140737488351232 → (∀ x ∈ l1, (Lit.int .u32 x).wf = true) → l2.length ≤ maxLen → l2.length * 4 ≤ 140737488351232 → (∀ x ∈ l2, (Lit.int .u32 x).wf = true) → ∃ k, slipsticklaw01_NatTurned.f k l0 l1 l2 = some true
theorem slipsticklaw01_NatTurned.walk (P : slipsticklaw01_NatTurned.Pure) (a0 : Option Addr) (len0 cap0 : Nat) (z0 : List Int) (a1 : Option Addr) (len1 cap1 : Nat) (z1 : List Int) (a2 : Option Addr) (len2 cap2 : Nat) (z2 : List Int) (w : World) (w0 : (a0 = none ∧ len0 = 0 ∧ cap0 = 0 ∧ z0 = []) ∨ ∃ x, a0 = some x ∧ len0 ≤ cap0 ∧ cap0 ≤ maxLen ∧ z0.length = cap0 ∧ (∀ i, i < z0.length → w.cell? (x.add i) = some (.int .u32 (z0.getD i 0))) ∧ ∀ n ∈ z0, (Lit.int .u32 n).wf = true) (y0 : len0 * 4 ≤ 140737488351232) (w1 : (a1 = none ∧ len1 = 0 ∧ cap1 = 0 ∧ z1 = []) ∨ ∃ x, a1 = some x ∧ len1 ≤ cap1 ∧ cap1 ≤ maxLen ∧ z1.length = cap1 ∧ (∀ i, i < z1.length → w.cell? (x.add i) = some (.int .u32 (z1.getD i 0))) ∧ ∀ n ∈ z1, (Lit.int .u32 n).wf = true) (y1 : len1 * 4 ≤ 140737488351232) (w2 : (a2 = none ∧ len2 = 0 ∧ cap2 = 0 ∧ z2 = []) ∨ ∃ x, a2 = some x ∧ len2 ≤ cap2 ∧ cap2 ≤ maxLen ∧ z2.length = cap2 ∧ (∀ i, i < z2.length → w.cell? (x.add i) = some (.int .u32 (z2.getD i 0))) ∧ ∀ n ∈ z2, (Lit.int .u32 n).wf = true) (y2 : len2 * 4 ≤ 140737488351232) :
    Calls Try.prog 7 #[.slice a0 len0 cap0, .slice a1 len1 cap1, .slice a2 len2 cap2] w fun e w' => e = .returned (.bool true) ∧ Below w.heap.size w w' := by
  obtain ⟨l0, rfl, hr0, hm0, hw0, hc0⟩ := ReadsInt.ofRowC w0
  obtain ⟨l1, rfl, hr1, hm1, hw1, hc1⟩ := ReadsInt.ofRowC w1
  obtain ⟨l2, rfl, hr2, hm2, hw2, hc2⟩ := ReadsInt.ofRowC w2
  obtain ⟨k, h⟩ := P l0 l1 l2 hm0 y0 hw0 hm1 y1 hw1 hm2 y2 hw2
  refine (slipsticklaw01_NatTurned.calls k _ _ l0 _ _ l1 _ _ l2 true w (Kd.C_of_reads (d := (0 : Int)) (h1 := fun _ => rfl) hr0) hc0 (Kd.C_of_reads (d := (0 : Int)) (h1 := fun _ => rfl) hr1) hc1 (Kd.C_of_reads (d := (0 : Int)) (h1 := fun _ => rfl) hr2) hc2 h).mono ?_
  rintro e w' ⟨rfl, hd⟩
  exact ⟨rfl, hd⟩

end Go.Proofs.Ytgccgmpfcnhbgaa.P
