-- made by a changed copy of the kit's print (wip/hack.py)
import Derived.Test.YtgccgmpfcnhbgaaPx0
import Derived.Test.YtgccgmpfcnhbgaaPx1
import Derived.Test.YtgccgmpfcnhbgaaPx2
import Derived.Test.YtgccgmpfcnhbgaaPx3
import Derived.Test.YtgccgmpfcnhbgaaPx4
import Derived.Test.YtgccgmpfcnhbgaaPx5
namespace Go.Proofs.Ytgccgmpfcnhbgaa.P
open Go.RowKit Go.Proofs.YtgccgmpfcnhbgaaW.PrintWords Go.Proofs.YtgccgmpfcnhbgaaW.PrintLast Go.Proofs.YtgccgmpfcnhbgaaW.PrintMore
attribute [local go_sem] max2_int min2_int max_two min_two max_three min_three max_four min_four   -- for this text's walks alone
set_option linter.unusedVariables false
set_option linter.unusedSimpArgs false

/-! ### slipsticklaw01_NatParts: function 8 -/
def slipsticklaw01_NatParts.j0 : Nat → List Int → Bool → Option (Bool)
  | 0, _, _ => none
  | k + 1, x0, x70 => if x70 = true then (none) else ((nat_Of.f k 1).bind fun t572 => ((nat_Nat_Len.f k x0).bind fun t575 => ((nat_Nat_Left.f k t572 t575).bind fun bt576 => (if bt576.2 = 0 then ((nat_Cmp.f k x0 bt576.1).bind fun t580 => (if t580 < 0 then ((nat_Nat_Len.f k x0).bind fun t581 => (if t581 = 0 then (some true) else ((nat_Nat_Len.f k x0).bind fun t582 => ((nat_Nat_Bit.f x0 (wrap64 (t582 - 1))).bind fun t583 => (if t583 = 1 then ((nat_Nat_Zeros.f k x0).bind fun t584 => ((nat_Nat_Bit.f x0 t584).bind fun t585 => (some (t585 == 1)))) else (none)))))) else (none))) else (none)))))
def slipsticklaw01_NatParts.f (k : Nat) (l0 : List Int) (a1 : Int) : Option (Bool) := (slipsticklaw01_awake.f k).bind fun t550 => (if t550 = true then (if (l0.length : Int) > 24 then (some true) else ((nat_Nat_Right.f k l0 (wrap64 (Int.tmod a1 800))).bind fun bt551 => ((nat_Nat_Left.f k bt551.1 (wrap64 (Int.tmod a1 800))).bind fun bt555 => ((nat_Sub.f k l0 bt555.1).bind fun bt559 => ((nat_Of.f k 1).bind fun t563 => ((nat_Nat_Left.f k t563 (wrap64 (Int.tmod a1 800))).bind fun bt566 => (if bt555.2 = 0 then (if bt559.2 = 0 then (if bt566.2 = 0 then ((nat_Cmp.f k bt559.1 bt566.1).bind fun t570 => (if t570 ≥ 0 then (slipsticklaw01_NatParts.j0 k l0 true) else ((nat_Nat_Len.f k bt559.1).bind fun t571 => (slipsticklaw01_NatParts.j0 k l0 (bt551.2 != (decide (t571 > 0))))))) else (slipsticklaw01_NatParts.j0 k l0 true)) else (slipsticklaw01_NatParts.j0 k l0 true)) else (slipsticklaw01_NatParts.j0 k l0 true)))))))) else (none))
theorem slipsticklaw01_NatParts.mono_l : ∀ k, (∀ y0 y1, LeO (slipsticklaw01_NatParts.j0 k y0 y1) (slipsticklaw01_NatParts.j0 (k + 1) y0 y1))
  | 0 => fun _ _ r h => by simp [slipsticklaw01_NatParts.j0] at h
  | k + 1 => by
    have ih0 := slipsticklaw01_NatParts.mono_l k
    · intro y0 y1
      unfold slipsticklaw01_NatParts.j0
      repeat' first
      | (with_reducible exact ih0 _ _)
      | (with_reducible exact nat_Cmp.mono _ _ _)
      | (with_reducible exact nat_Nat_Left.mono _ _ _)
      | (with_reducible exact nat_Nat_Len.mono _ _)
      | (with_reducible exact nat_Nat_Right.mono _ _ _)
      | (with_reducible exact nat_Nat_Zeros.mono _ _)
      | (with_reducible exact nat_Of.mono _ _)
      | (with_reducible exact nat_Sub.mono _ _ _)
      | (with_reducible exact slipsticklaw01_awake.mono _)
      | (with_reducible exact LeO.refl _)
      | (with_reducible exact LeO.none _)
      | (with_reducible refine LeO.ite ?_ ?_)
      | (with_reducible refine LeO.bind ?_ (fun _ => ?_))
      | exact ih0 _ _
      | exact nat_Cmp.mono _ _ _
      | exact nat_Nat_Left.mono _ _ _
      | exact nat_Nat_Len.mono _ _
      | exact nat_Nat_Right.mono _ _ _
      | exact nat_Nat_Zeros.mono _ _
      | exact nat_Of.mono _ _
      | exact nat_Sub.mono _ _ _
      | exact slipsticklaw01_awake.mono _
      | exact LeO.none _
      | refine LeO.ite ?_ ?_
      | refine LeO.bind ?_ (fun _ => ?_)
theorem slipsticklaw01_NatParts.mono : ∀ a0 a1 k, LeO (slipsticklaw01_NatParts.f k a0 a1) (slipsticklaw01_NatParts.f (k + 1) a0 a1) := by
  intro a0 a1 k
  have ih0 := slipsticklaw01_NatParts.mono_l k
  unfold slipsticklaw01_NatParts.f
  repeat' first
      | (with_reducible exact ih0 _ _)
      | (with_reducible exact nat_Cmp.mono _ _ _)
      | (with_reducible exact nat_Nat_Left.mono _ _ _)
      | (with_reducible exact nat_Nat_Len.mono _ _)
      | (with_reducible exact nat_Nat_Right.mono _ _ _)
      | (with_reducible exact nat_Nat_Zeros.mono _ _)
      | (with_reducible exact nat_Of.mono _ _)
      | (with_reducible exact nat_Sub.mono _ _ _)
      | (with_reducible exact slipsticklaw01_awake.mono _)
      | (with_reducible exact LeO.refl _)
      | (with_reducible exact LeO.none _)
      | (with_reducible refine LeO.ite ?_ ?_)
      | (with_reducible refine LeO.bind ?_ (fun _ => ?_))
      | exact ih0 _ _
      | exact nat_Cmp.mono _ _ _
      | exact nat_Nat_Left.mono _ _ _
      | exact nat_Nat_Len.mono _ _
      | exact nat_Nat_Right.mono _ _ _
      | exact nat_Nat_Zeros.mono _ _
      | exact nat_Of.mono _ _
      | exact nat_Sub.mono _ _ _
      | exact slipsticklaw01_awake.mono _
      | exact LeO.none _
      | refine LeO.ite ?_ ?_
      | refine LeO.bind ?_ (fun _ => ?_)
set_option maxHeartbeats 8000000 in
set_option maxRecDepth 100000 in
theorem slipsticklaw01_NatParts.calls (k : Nat) (A0 : Option Addr) (c0 : Nat) (l0 : List Int) (a1 : Int) (r : Bool) (w : World) (hr0 : Kd.C (Kd.int .u32) w A0 l0.length l0) (hc0 : l0.length ≤ c0) (h : slipsticklaw01_NatParts.f k l0 a1 = some r) :
    Calls Try.prog 8 #[.slice A0 l0.length c0, .int .u16 a1] w fun e w' => e = .returned (.bool r) ∧ Below w.heap.size w w' := by
  have HR0 := Aside0.mk hr0
  have HC0 := Aside0.mk hc0
  clear hr0 hc0
  have HB := Aside0.mk (Below.refl w.heap.size w)
  have H : ((slipsticklaw01_awake.f k).bind fun t550 => (if t550 = true then (if (l0.length : Int) > 24 then (some true) else ((nat_Nat_Right.f k l0 (wrap64 (Int.tmod a1 800))).bind fun bt551 => ((nat_Nat_Left.f k bt551.1 (wrap64 (Int.tmod a1 800))).bind fun bt555 => ((nat_Sub.f k l0 bt555.1).bind fun bt559 => ((nat_Of.f k 1).bind fun t563 => ((nat_Nat_Left.f k t563 (wrap64 (Int.tmod a1 800))).bind fun bt566 => (if bt555.2 = 0 then (if bt559.2 = 0 then (if bt566.2 = 0 then ((nat_Cmp.f k bt559.1 bt566.1).bind fun t570 => (if t570 ≥ 0 then (slipsticklaw01_NatParts.j0 k l0 true) else ((nat_Nat_Len.f k bt559.1).bind fun t571 => (slipsticklaw01_NatParts.j0 k l0 (bt551.2 != (decide (t571 > 0))))))) else (slipsticklaw01_NatParts.j0 k l0 true)) else (slipsticklaw01_NatParts.j0 k l0 true)) else (slipsticklaw01_NatParts.j0 k l0 true)))))))) else (none))) = some r := h
  clear h
  replace H := Option.bind_eq_some_iff.mp H
  obtain ⟨t550, A30, H⟩ := H
  replace H : (if t550 = true then (if (l0.length : Int) > 24 then (some true) else ((nat_Nat_Right.f k l0 (wrap64 (Int.tmod a1 800))).bind fun bt551 => ((nat_Nat_Left.f k bt551.1 (wrap64 (Int.tmod a1 800))).bind fun bt555 => ((nat_Sub.f k l0 bt555.1).bind fun bt559 => ((nat_Of.f k 1).bind fun t563 => ((nat_Nat_Left.f k t563 (wrap64 (Int.tmod a1 800))).bind fun bt566 => (if bt555.2 = 0 then (if bt559.2 = 0 then (if bt566.2 = 0 then ((nat_Cmp.f k bt559.1 bt566.1).bind fun t570 => (if t570 ≥ 0 then (slipsticklaw01_NatParts.j0 k l0 true) else ((nat_Nat_Len.f k bt559.1).bind fun t571 => (slipsticklaw01_NatParts.j0 k l0 (bt551.2 != (decide (t571 > 0))))))) else (slipsticklaw01_NatParts.j0 k l0 true)) else (slipsticklaw01_NatParts.j0 k l0 true)) else (slipsticklaw01_NatParts.j0 k l0 true)))))))) else (none)) = some r := H
  have A3 := Aside0.mk A30
  clear A30
  by_cases c4 : t550 = true
  · subst c4
    have H1 : (if (l0.length : Int) > 24 then (some true) else ((nat_Nat_Right.f k l0 (wrap64 (Int.tmod a1 800))).bind fun bt551 => ((nat_Nat_Left.f k bt551.1 (wrap64 (Int.tmod a1 800))).bind fun bt555 => ((nat_Sub.f k l0 bt555.1).bind fun bt559 => ((nat_Of.f k 1).bind fun t563 => ((nat_Nat_Left.f k t563 (wrap64 (Int.tmod a1 800))).bind fun bt566 => (if bt555.2 = 0 then (if bt559.2 = 0 then (if bt566.2 = 0 then ((nat_Cmp.f k bt559.1 bt566.1).bind fun t570 => (if t570 ≥ 0 then (slipsticklaw01_NatParts.j0 k l0 true) else ((nat_Nat_Len.f k bt559.1).bind fun t571 => (slipsticklaw01_NatParts.j0 k l0 (bt551.2 != (decide (t571 > 0))))))) else (slipsticklaw01_NatParts.j0 k l0 true)) else (slipsticklaw01_NatParts.j0 k l0 true)) else (slipsticklaw01_NatParts.j0 k l0 true)))))))) = some r := by rw [if_pos rfl] at H; exact H
    clear H
    have H := H1
    clear H1
    by_cases c5 : (l0.length : Int) > 24
    · rw [if_pos c5] at H
      have c5b0 : decide (24 < (l0.length : Int)) = true := decide_eq_true c5
      have c5b1 : decide (24 < l0.length) = true := decide_eq_true (by omega)
      clear c5
      obtain rfl := Option.some.inj H
      go_enter Try.func8, Try.ntmps8
      go_wp2_with (first | ((with_reducible refine gate_callee (f := 9) rfl ?_); refine goesL_ (some 16) rfl rfl Try.func9 (by kernel_rfl) rfl #[] rfl (by (try simp only [List.map_toArray, List.map_cons, List.map_nil]); first | done | rfl | (simp only [List.length_drop, List.length_take]; rfl)) ?_; (with_reducible refine (slipsticklaw01_awake.calls k  true _ A3.out).mono ?_); rintro e w6 ⟨rfl, hb⟩; refine ⟨_, rfl, ?_⟩; have n0_ := Aside0.mk (below_step (by repeat (first | (with_reducible first | exact HB.out | apply below_alloc | apply pw_below_drewN | apply below_drew1) | exact HB.out)) hb); clear HB; have HB := n0_; clear n0_; (try clear hb); (try clear hb2); (try clear hk); (try clear hi)))
      go_ret
      exact ⟨by first | rfl | (simp [errW_none, errW_some] <;> rfl) | (simp [*, errW_none, errW_some] <;> rfl), by repeat (first | (with_reducible first | exact HB.out | apply below_alloc | apply pw_below_drewN | apply below_drew1) | exact HB.out)⟩
    · rw [if_neg c5] at H
      have c5b0 : decide (24 < (l0.length : Int)) = false := decide_eq_false c5
      have c5b1 : decide (24 < l0.length) = false := decide_eq_false (by omega)
      clear c5
      replace H := Option.bind_eq_some_iff.mp H
      obtain ⟨⟨t551, t554⟩, A70, H⟩ := H
      replace H : ((nat_Nat_Left.f k t551 (wrap64 (Int.tmod a1 800))).bind fun bt555 => ((nat_Sub.f k l0 bt555.1).bind fun bt559 => ((nat_Of.f k 1).bind fun t563 => ((nat_Nat_Left.f k t563 (wrap64 (Int.tmod a1 800))).bind fun bt566 => (if bt555.2 = 0 then (if bt559.2 = 0 then (if bt566.2 = 0 then ((nat_Cmp.f k bt559.1 bt566.1).bind fun t570 => (if t570 ≥ 0 then (slipsticklaw01_NatParts.j0 k l0 true) else ((nat_Nat_Len.f k bt559.1).bind fun t571 => (slipsticklaw01_NatParts.j0 k l0 (t554 != (decide (t571 > 0))))))) else (slipsticklaw01_NatParts.j0 k l0 true)) else (slipsticklaw01_NatParts.j0 k l0 true)) else (slipsticklaw01_NatParts.j0 k l0 true)))))) = some r := H
      have A7 := Aside0.mk A70
      clear A70
      replace H := Option.bind_eq_some_iff.mp H
      obtain ⟨⟨t555, t558⟩, A80, H⟩ := H
      replace H : ((nat_Sub.f k l0 t555).bind fun bt559 => ((nat_Of.f k 1).bind fun t563 => ((nat_Nat_Left.f k t563 (wrap64 (Int.tmod a1 800))).bind fun bt566 => (if t558 = 0 then (if bt559.2 = 0 then (if bt566.2 = 0 then ((nat_Cmp.f k bt559.1 bt566.1).bind fun t570 => (if t570 ≥ 0 then (slipsticklaw01_NatParts.j0 k l0 true) else ((nat_Nat_Len.f k bt559.1).bind fun t571 => (slipsticklaw01_NatParts.j0 k l0 (t554 != (decide (t571 > 0))))))) else (slipsticklaw01_NatParts.j0 k l0 true)) else (slipsticklaw01_NatParts.j0 k l0 true)) else (slipsticklaw01_NatParts.j0 k l0 true))))) = some r := H
      have A8 := Aside0.mk A80
      clear A80
      replace H := Option.bind_eq_some_iff.mp H
      obtain ⟨⟨t559, t562⟩, A90, H⟩ := H
      replace H : ((nat_Of.f k 1).bind fun t563 => ((nat_Nat_Left.f k t563 (wrap64 (Int.tmod a1 800))).bind fun bt566 => (if t558 = 0 then (if t562 = 0 then (if bt566.2 = 0 then ((nat_Cmp.f k t559 bt566.1).bind fun t570 => (if t570 ≥ 0 then (slipsticklaw01_NatParts.j0 k l0 true) else ((nat_Nat_Len.f k t559).bind fun t571 => (slipsticklaw01_NatParts.j0 k l0 (t554 != (decide (t571 > 0))))))) else (slipsticklaw01_NatParts.j0 k l0 true)) else (slipsticklaw01_NatParts.j0 k l0 true)) else (slipsticklaw01_NatParts.j0 k l0 true)))) = some r := H
      have A9 := Aside0.mk A90
      clear A90
      replace H := Option.bind_eq_some_iff.mp H
      obtain ⟨t563, A100, H⟩ := H
      replace H : ((nat_Nat_Left.f k t563 (wrap64 (Int.tmod a1 800))).bind fun bt566 => (if t558 = 0 then (if t562 = 0 then (if bt566.2 = 0 then ((nat_Cmp.f k t559 bt566.1).bind fun t570 => (if t570 ≥ 0 then (slipsticklaw01_NatParts.j0 k l0 true) else ((nat_Nat_Len.f k t559).bind fun t571 => (slipsticklaw01_NatParts.j0 k l0 (t554 != (decide (t571 > 0))))))) else (slipsticklaw01_NatParts.j0 k l0 true)) else (slipsticklaw01_NatParts.j0 k l0 true)) else (slipsticklaw01_NatParts.j0 k l0 true))) = some r := H
      have A10 := Aside0.mk A100
      clear A100
      replace H := Option.bind_eq_some_iff.mp H
      obtain ⟨⟨t566, t569⟩, A110, H⟩ := H
      replace H : (if t558 = 0 then (if t562 = 0 then (if t569 = 0 then ((nat_Cmp.f k t559 t566).bind fun t570 => (if t570 ≥ 0 then (slipsticklaw01_NatParts.j0 k l0 true) else ((nat_Nat_Len.f k t559).bind fun t571 => (slipsticklaw01_NatParts.j0 k l0 (t554 != (decide (t571 > 0))))))) else (slipsticklaw01_NatParts.j0 k l0 true)) else (slipsticklaw01_NatParts.j0 k l0 true)) else (slipsticklaw01_NatParts.j0 k l0 true)) = some r := H
      have A11 := Aside0.mk A110
      clear A110
      have HC12 := Aside0.mk H
      clear H
      go_enter Try.func8, Try.ntmps8
      go_upto_region 10 with (first | ((with_reducible refine gate_callee (f := 9) rfl ?_); refine goesL_ (some 16) rfl rfl Try.func9 (by kernel_rfl) rfl #[] rfl (by (try simp only [List.map_toArray, List.map_cons, List.map_nil]); first | done | rfl | (simp only [List.length_drop, List.length_take]; rfl)) ?_; (with_reducible refine (slipsticklaw01_awake.calls k  true _ A3.out).mono ?_); rintro e w13 ⟨rfl, hb⟩; refine ⟨_, rfl, ?_⟩; have n0_ := Aside0.mk (below_step (by repeat (first | (with_reducible first | exact HB.out | apply below_alloc | apply pw_below_drewN | apply below_drew1) | exact HB.out)) hb); clear HB; have HB := n0_; clear n0_; (try clear hb); (try clear hb2); (try clear hk); (try clear hi)) | ((with_reducible refine gate_callee (f := 31) rfl ?_); refine goesL_ (some 27) rfl rfl Try.func31 (by kernel_rfl) rfl #[.slice A0 l0.length c0, .int .i64 (wrap64 (Int.tmod a1 800))] rfl (by (try simp only [List.map_toArray, List.map_cons, List.map_nil]); first | done | rfl | (simp only [List.length_drop, List.length_take]; rfl)) ?_; (with_reducible refine (nat_Nat_Right.calls k _ _ l0 (wrap64 (Int.tmod a1 800)) t551 t554 _ ?side1 ?side2 A7.out).mono ?_); (case side1 => repeat (first | exact (Kd.C_below HR0.out HB.out) | (with_reducible refine Kd.C_alloc ?_ _) | (with_reducible refine Kd.C_drewN ?_ _) | (with_reducible refine Kd.C_drew ?_))); (case side2 => exact HC0.out); rintro e w14 ⟨v552, rfl, ho0, hb⟩; refine ⟨_, rfl, ?_⟩; have n0_ := Aside0.mk (Kd.V_lower (Kd.V_mono (ok' := fun k_ => True) ho0 (fun k_ hk_ => trivial)) (below_size (by repeat (first | (with_reducible first | exact HB.out | apply below_alloc | apply pw_below_drewN | apply below_drew1) | exact HB.out)))); have n1_ := Aside0.mk (below_step (by repeat (first | (with_reducible first | exact HB.out | apply below_alloc | apply pw_below_drewN | apply below_drew1) | exact HB.out)) hb); clear HB; have HO553 := n0_; have HB := n1_; clear n0_ n1_; (try clear hb); (try clear hb2); (try clear hk); (try clear hi); (try clear ho0); obtain ⟨Ao15, co15, eo15⟩ := Kd.V_slice HO553.out; subst eo15) | ((with_reducible refine gate_callee (f := 30) rfl ?_); refine goesL_ (some 33) rfl rfl Try.func30 (by kernel_rfl) rfl #[.slice Ao15 t551.length co15, .int .i64 (wrap64 (Int.tmod a1 800))] rfl (by (try simp only [List.map_toArray, List.map_cons, List.map_nil]); first | done | rfl | (simp only [List.length_drop, List.length_take]; rfl)) ?_; (with_reducible refine (nat_Nat_Left.calls k _ _ t551 (wrap64 (Int.tmod a1 800)) t555 t558 _ ?side1 ?side2 A8.out).mono ?_); (case side1 => repeat (first | exact (Kd.V_reads' HO553.out).2.2 | (with_reducible refine Kd.C_alloc ?_ _) | (with_reducible refine Kd.C_drewN ?_ _) | (with_reducible refine Kd.C_drew ?_))); (case side2 => exact (Kd.V_reads' HO553.out).2.1); rintro e w16 ⟨v556, rfl, ho0, hb⟩; refine ⟨_, rfl, ?_⟩; have n0_ := Aside0.mk (Kd.V_below (by (with_reducible repeat (first | apply Kd.V_alloc | apply Kd.V_drewN | apply Kd.V_drew)); exact HO553.out) hb); have n1_ := Aside0.mk (Kd.V_lower (Kd.V_mono (ok' := fun k_ => True) ho0 (fun k_ hk_ => trivial)) (below_size (by repeat (first | (with_reducible first | exact HB.out | apply below_alloc | apply pw_below_drewN | apply below_drew1) | exact HB.out)))); have n2_ := Aside0.mk (below_step (by repeat (first | (with_reducible first | exact HB.out | apply below_alloc | apply pw_below_drewN | apply below_drew1) | exact HB.out)) hb); clear HO553; clear HB; have HO553 := n0_; have HO557 := n1_; have HB := n2_; clear n0_ n1_ n2_; (try clear hb); (try clear hb2); (try clear hk); (try clear hi); (try clear ho0); obtain ⟨Ao17, co17, eo17⟩ := Kd.V_slice HO557.out; subst eo17) | ((with_reducible refine gate_callee (f := 11) rfl ?_); refine goesL_ (some 39) rfl rfl Try.func11 (by kernel_rfl) rfl #[.slice A0 l0.length c0, .slice Ao17 t555.length co17] rfl (by (try simp only [List.map_toArray, List.map_cons, List.map_nil]); first | done | rfl | (simp only [List.length_drop, List.length_take]; rfl)) ?_; (with_reducible refine (nat_Sub.calls k _ _ l0 _ _ t555 t559 t562 _ ?side1 ?side2 ?side3 ?side4 A9.out).mono ?_); (case side1 => repeat (first | exact (Kd.C_below HR0.out HB.out) | (with_reducible refine Kd.C_alloc ?_ _) | (with_reducible refine Kd.C_drewN ?_ _) | (with_reducible refine Kd.C_drew ?_))); (case side2 => exact HC0.out); (case side3 => repeat (first | exact (Kd.V_reads' HO557.out).2.2 | (with_reducible refine Kd.C_alloc ?_ _) | (with_reducible refine Kd.C_drewN ?_ _) | (with_reducible refine Kd.C_drew ?_))); (case side4 => exact (Kd.V_reads' HO557.out).2.1); rintro e w18 ⟨v560, rfl, ho0, hb⟩; refine ⟨_, rfl, ?_⟩; have n0_ := Aside0.mk (Kd.V_below (by (with_reducible repeat (first | apply Kd.V_alloc | apply Kd.V_drewN | apply Kd.V_drew)); exact HO553.out) hb); have n1_ := Aside0.mk (Kd.V_below (by (with_reducible repeat (first | apply Kd.V_alloc | apply Kd.V_drewN | apply Kd.V_drew)); exact HO557.out) hb); have n2_ := Aside0.mk (Kd.V_lower (Kd.V_mono (ok' := fun k_ => True) ho0 (fun k_ hk_ => trivial)) (below_size (by repeat (first | (with_reducible first | exact HB.out | apply below_alloc | apply pw_below_drewN | apply below_drew1) | exact HB.out)))); have n3_ := Aside0.mk (below_step (by repeat (first | (with_reducible first | exact HB.out | apply below_alloc | apply pw_below_drewN | apply below_drew1) | exact HB.out)) hb); clear HO553; clear HO557; clear HB; have HO553 := n0_; have HO557 := n1_; have HO561 := n2_; have HB := n3_; clear n0_ n1_ n2_ n3_; (try clear hb); (try clear hb2); (try clear hk); (try clear hi); (try clear ho0)) | ((with_reducible refine gate_callee (f := 28) rfl ?_); refine goesL_ (some 43) rfl rfl Try.func28 (by kernel_rfl) rfl #[.int .u64 1] rfl (by (try simp only [List.map_toArray, List.map_cons, List.map_nil]); first | done | rfl | (simp only [List.length_drop, List.length_take]; rfl)) ?_; (with_reducible refine (nat_Of.calls k 1 t563 _ A10.out).mono ?_); rintro e w19 ⟨v564, rfl, ho0, hb⟩; refine ⟨_, rfl, ?_⟩; have n0_ := Aside0.mk (Kd.V_below (by (with_reducible repeat (first | apply Kd.V_alloc | apply Kd.V_drewN | apply Kd.V_drew)); exact HO553.out) hb); have n1_ := Aside0.mk (Kd.V_below (by (with_reducible repeat (first | apply Kd.V_alloc | apply Kd.V_drewN | apply Kd.V_drew)); exact HO557.out) hb); have n2_ := Aside0.mk (Kd.V_below (by (with_reducible repeat (first | apply Kd.V_alloc | apply Kd.V_drewN | apply Kd.V_drew)); exact HO561.out) hb); have n3_ := Aside0.mk (Kd.V_lower (Kd.V_mono (ok' := fun k_ => True) ho0 (fun k_ hk_ => trivial)) (below_size (by repeat (first | (with_reducible first | exact HB.out | apply below_alloc | apply pw_below_drewN | apply below_drew1) | exact HB.out)))); have n4_ := Aside0.mk (below_step (by repeat (first | (with_reducible first | exact HB.out | apply below_alloc | apply pw_below_drewN | apply below_drew1) | exact HB.out)) hb); clear HO553; clear HO557; clear HO561; clear HB; have HO553 := n0_; have HO557 := n1_; have HO561 := n2_; have HO565 := n3_; have HB := n4_; clear n0_ n1_ n2_ n3_ n4_; (try clear hb); (try clear hb2); (try clear hk); (try clear hi); (try clear ho0); obtain ⟨Ao20, co20, eo20⟩ := Kd.V_slice HO565.out; subst eo20) | ((with_reducible refine gate_callee (f := 30) rfl ?_); refine goesL_ (some 45) rfl rfl Try.func30 (by kernel_rfl) rfl #[.slice Ao20 t563.length co20, .int .i64 (wrap64 (Int.tmod a1 800))] rfl (by (try simp only [List.map_toArray, List.map_cons, List.map_nil]); first | done | rfl | (simp only [List.length_drop, List.length_take]; rfl)) ?_; (with_reducible refine (nat_Nat_Left.calls k _ _ t563 (wrap64 (Int.tmod a1 800)) t566 t569 _ ?side1 ?side2 A11.out).mono ?_); (case side1 => repeat (first | exact (Kd.V_reads' HO565.out).2.2 | (with_reducible refine Kd.C_alloc ?_ _) | (with_reducible refine Kd.C_drewN ?_ _) | (with_reducible refine Kd.C_drew ?_))); (case side2 => exact (Kd.V_reads' HO565.out).2.1); rintro e w21 ⟨v567, rfl, ho0, hb⟩; refine ⟨_, rfl, ?_⟩; have n0_ := Aside0.mk (Kd.V_below (by (with_reducible repeat (first | apply Kd.V_alloc | apply Kd.V_drewN | apply Kd.V_drew)); exact HO553.out) hb); have n1_ := Aside0.mk (Kd.V_below (by (with_reducible repeat (first | apply Kd.V_alloc | apply Kd.V_drewN | apply Kd.V_drew)); exact HO557.out) hb); have n2_ := Aside0.mk (Kd.V_below (by (with_reducible repeat (first | apply Kd.V_alloc | apply Kd.V_drewN | apply Kd.V_drew)); exact HO561.out) hb); have n3_ := Aside0.mk (Kd.V_below (by (with_reducible repeat (first | apply Kd.V_alloc | apply Kd.V_drewN | apply Kd.V_drew)); exact HO565.out) hb); have n4_ := Aside0.mk (Kd.V_lower (Kd.V_mono (ok' := fun k_ => True) ho0 (fun k_ hk_ => trivial)) (below_size (by repeat (first | (with_reducible first | exact HB.out | apply below_alloc | apply pw_below_drewN | apply below_drew1) | exact HB.out)))); have n5_ := Aside0.mk (below_step (by repeat (first | (with_reducible first | exact HB.out | apply below_alloc | apply pw_below_drewN | apply below_drew1) | exact HB.out)) hb); clear HO553; clear HO557; clear HO561; clear HO565; clear HB; have HO553 := n0_; have HO557 := n1_; have HO561 := n2_; have HO565 := n3_; have HO568 := n4_; have HB := n5_; clear n0_ n1_ n2_ n3_ n4_ n5_; (try clear hb); (try clear hb2); (try clear hk); (try clear hi); (try clear ho0)))
      (try simp only [Act.put, List.setIfInBounds_toArray, List.set_cons_zero, List.set_cons_succ])
      go_cut [70] (fun v70 wc => ∃ (kq : Nat) (x70_11 : Bool), v70 = .bool x70_11 ∧ Aside0 (slipsticklaw01_NatParts.j0 kq l0 x70_11 = some r) ∧ Aside0 (kq ≤ k) ∧ Aside0 (Below w.heap.size w wc))
      case first =>
        have H := HC12.out
        clear HC12
        by_cases c22 : t558 = 0
        · rw [if_pos c22] at H
          have c22b0 : (t558 == 0) = true := beq_iff_eq.mpr c22
          have c22b1 : (t558 != 0) = false := bne_eq_false_iff_eq.mpr c22
          clear c22
          (first | rw [c22b0] | (simp only [i64_w, i32_w]; rw [c22b0]) | skip)
          by_cases c23 : t562 = 0
          · rw [if_pos c23] at H
            have c23b0 : (t562 == 0) = true := beq_iff_eq.mpr c23
            have c23b1 : (t562 != 0) = false := bne_eq_false_iff_eq.mpr c23
            clear c23
            by_cases c24 : t569 = 0
            · rw [if_pos c24] at H
              have c24b0 : (t569 == 0) = true := beq_iff_eq.mpr c24
              have c24b1 : (t569 != 0) = false := bne_eq_false_iff_eq.mpr c24
              clear c24
              replace H := Option.bind_eq_some_iff.mp H
              obtain ⟨t570, A250, H⟩ := H
              replace H : (if t570 ≥ 0 then (slipsticklaw01_NatParts.j0 k l0 true) else ((nat_Nat_Len.f k t559).bind fun t571 => (slipsticklaw01_NatParts.j0 k l0 (t554 != (decide (t571 > 0)))))) = some r := H
              have A25 := Aside0.mk A250
              clear A250
              by_cases c26 : t570 ≥ 0
              · rw [if_pos c26] at H
                have c26b0 : decide (0 ≤ t570) = true := decide_eq_true c26
                clear c26
                have H' := Aside0.mk H
                clear H
                obtain ⟨Ao27, co27, eo27⟩ := Kd.V_slice HO561.out
                subst eo27
                obtain ⟨Ao28, co28, eo28⟩ := Kd.V_slice HO568.out
                subst eo28
                go_wp2_with (first | (go_at_call 20; (with_reducible refine (nat_Cmp.calls k _ _ t559 _ _ t566 t570 _ ?side1 ?side2 ?side3 ?side4 A25.out).mono ?_); (case side1 => repeat (first | exact (Kd.V_reads' HO561.out).2.2 | (with_reducible refine Kd.C_alloc ?_ _) | (with_reducible refine Kd.C_drewN ?_ _) | (with_reducible refine Kd.C_drew ?_))); (case side2 => exact (Kd.V_reads' HO561.out).2.1); (case side3 => repeat (first | exact (Kd.V_reads' HO568.out).2.2 | (with_reducible refine Kd.C_alloc ?_ _) | (with_reducible refine Kd.C_drewN ?_ _) | (with_reducible refine Kd.C_drew ?_))); (case side4 => exact (Kd.V_reads' HO568.out).2.1); rintro e w29 ⟨rfl, hb⟩; have n0_ := Aside0.mk (Kd.V_below (by (with_reducible repeat (first | apply Kd.V_alloc | apply Kd.V_drewN | apply Kd.V_drew)); exact HO553.out) hb); have n1_ := Aside0.mk (Kd.V_below (by (with_reducible repeat (first | apply Kd.V_alloc | apply Kd.V_drewN | apply Kd.V_drew)); exact HO557.out) hb); have n2_ := Aside0.mk (Kd.V_below (by (with_reducible repeat (first | apply Kd.V_alloc | apply Kd.V_drewN | apply Kd.V_drew)); exact HO561.out) hb); have n3_ := Aside0.mk (Kd.V_below (by (with_reducible repeat (first | apply Kd.V_alloc | apply Kd.V_drewN | apply Kd.V_drew)); exact HO565.out) hb); have n4_ := Aside0.mk (Kd.V_below (by (with_reducible repeat (first | apply Kd.V_alloc | apply Kd.V_drewN | apply Kd.V_drew)); exact HO568.out) hb); have n5_ := Aside0.mk (below_step (by repeat (first | (with_reducible first | exact HB.out | apply below_alloc | apply pw_below_drewN | apply below_drew1) | exact HB.out)) hb); clear HO553; clear HO557; clear HO561; clear HO565; clear HO568; clear HB; have HO553 := n0_; have HO557 := n1_; have HO561 := n2_; have HO565 := n3_; have HO568 := n4_; have HB := n5_; clear n0_ n1_ n2_ n3_ n4_ n5_; (try clear hb); (try clear hb2); (try clear hk); (try clear hi)))
                go_meet
                case rel => exact ⟨_, (true), (by first | rfl | (simp; done) | (simp [*]; done) | (simp; omega)), H', ⟨by first | omega | exact Nat.le_refl _⟩, ⟨by repeat (first | (with_reducible first | exact HB.out | apply below_alloc | apply pw_below_drewN | apply below_drew1) | exact HB.out)⟩⟩
              · rw [if_neg c26] at H
                have c26b0 : decide (0 ≤ t570) = false := decide_eq_false c26
                clear c26
                replace H := Option.bind_eq_some_iff.mp H
                obtain ⟨t571, A300, H⟩ := H
                replace H : (slipsticklaw01_NatParts.j0 k l0 (t554 != (decide (t571 > 0)))) = some r := H
                have A30 := Aside0.mk A300
                clear A300
                have H' := Aside0.mk H
                clear H
                obtain ⟨Ao31, co31, eo31⟩ := Kd.V_slice HO561.out
                subst eo31
                obtain ⟨Ao32, co32, eo32⟩ := Kd.V_slice HO568.out
                subst eo32
                go_wp2_with (first | (go_at_call 20; (with_reducible refine (nat_Cmp.calls k _ _ t559 _ _ t566 t570 _ ?side1 ?side2 ?side3 ?side4 A25.out).mono ?_); (case side1 => repeat (first | exact (Kd.V_reads' HO561.out).2.2 | (with_reducible refine Kd.C_alloc ?_ _) | (with_reducible refine Kd.C_drewN ?_ _) | (with_reducible refine Kd.C_drew ?_))); (case side2 => exact (Kd.V_reads' HO561.out).2.1); (case side3 => repeat (first | exact (Kd.V_reads' HO568.out).2.2 | (with_reducible refine Kd.C_alloc ?_ _) | (with_reducible refine Kd.C_drewN ?_ _) | (with_reducible refine Kd.C_drew ?_))); (case side4 => exact (Kd.V_reads' HO568.out).2.1); rintro e w33 ⟨rfl, hb⟩; have n0_ := Aside0.mk (Kd.V_below (by (with_reducible repeat (first | apply Kd.V_alloc | apply Kd.V_drewN | apply Kd.V_drew)); exact HO553.out) hb); have n1_ := Aside0.mk (Kd.V_below (by (with_reducible repeat (first | apply Kd.V_alloc | apply Kd.V_drewN | apply Kd.V_drew)); exact HO557.out) hb); have n2_ := Aside0.mk (Kd.V_below (by (with_reducible repeat (first | apply Kd.V_alloc | apply Kd.V_drewN | apply Kd.V_drew)); exact HO561.out) hb); have n3_ := Aside0.mk (Kd.V_below (by (with_reducible repeat (first | apply Kd.V_alloc | apply Kd.V_drewN | apply Kd.V_drew)); exact HO565.out) hb); have n4_ := Aside0.mk (Kd.V_below (by (with_reducible repeat (first | apply Kd.V_alloc | apply Kd.V_drewN | apply Kd.V_drew)); exact HO568.out) hb); have n5_ := Aside0.mk (below_step (by repeat (first | (with_reducible first | exact HB.out | apply below_alloc | apply pw_below_drewN | apply below_drew1) | exact HB.out)) hb); clear HO553; clear HO557; clear HO561; clear HO565; clear HO568; clear HB; have HO553 := n0_; have HO557 := n1_; have HO561 := n2_; have HO565 := n3_; have HO568 := n4_; have HB := n5_; clear n0_ n1_ n2_ n3_ n4_ n5_; (try clear hb); (try clear hb2); (try clear hk); (try clear hi)) | (go_at_call 24; (with_reducible refine (nat_Nat_Len.calls k _ _ t559 t571 _ ?side1 ?side2 A30.out).mono ?_); (case side1 => repeat (first | exact (Kd.V_reads' HO561.out).2.2 | (with_reducible refine Kd.C_alloc ?_ _) | (with_reducible refine Kd.C_drewN ?_ _) | (with_reducible refine Kd.C_drew ?_))); (case side2 => exact (Kd.V_reads' HO561.out).2.1); rintro e w34 ⟨rfl, hb⟩; have n0_ := Aside0.mk (Kd.V_below (by (with_reducible repeat (first | apply Kd.V_alloc | apply Kd.V_drewN | apply Kd.V_drew)); exact HO553.out) hb); have n1_ := Aside0.mk (Kd.V_below (by (with_reducible repeat (first | apply Kd.V_alloc | apply Kd.V_drewN | apply Kd.V_drew)); exact HO557.out) hb); have n2_ := Aside0.mk (Kd.V_below (by (with_reducible repeat (first | apply Kd.V_alloc | apply Kd.V_drewN | apply Kd.V_drew)); exact HO561.out) hb); have n3_ := Aside0.mk (Kd.V_below (by (with_reducible repeat (first | apply Kd.V_alloc | apply Kd.V_drewN | apply Kd.V_drew)); exact HO565.out) hb); have n4_ := Aside0.mk (Kd.V_below (by (with_reducible repeat (first | apply Kd.V_alloc | apply Kd.V_drewN | apply Kd.V_drew)); exact HO568.out) hb); have n5_ := Aside0.mk (below_step (by repeat (first | (with_reducible first | exact HB.out | apply below_alloc | apply pw_below_drewN | apply below_drew1) | exact HB.out)) hb); clear HO553; clear HO557; clear HO561; clear HO565; clear HO568; clear HB; have HO553 := n0_; have HO557 := n1_; have HO561 := n2_; have HO565 := n3_; have HO568 := n4_; have HB := n5_; clear n0_ n1_ n2_ n3_ n4_ n5_; (try clear hb); (try clear hb2); (try clear hk); (try clear hi)))
                go_meet
                case rel => exact ⟨_, ((t554 != (decide (t571 > 0)))), (by first | rfl | (simp; done) | (simp [*]; done) | (simp; omega)), H', ⟨by first | omega | exact Nat.le_refl _⟩, ⟨by repeat (first | (with_reducible first | exact HB.out | apply below_alloc | apply pw_below_drewN | apply below_drew1) | exact HB.out)⟩⟩
            · rw [if_neg c24] at H
              have c24b0 : (t569 == 0) = false := beq_eq_false_iff_ne.mpr c24
              have c24b1 : (t569 != 0) = true := bne_iff_ne.mpr c24
              have H' := Aside0.mk H
              clear H
              go_wp2
              go_meet
              case rel => exact ⟨_, (true), (by first | rfl | (simp; done) | (simp [*]; done) | (simp; omega)), H', ⟨by first | omega | exact Nat.le_refl _⟩, ⟨by repeat (first | (with_reducible first | exact HB.out | apply below_alloc | apply pw_below_drewN | apply below_drew1) | exact HB.out)⟩⟩
          · rw [if_neg c23] at H
            have c23b0 : (t562 == 0) = false := beq_eq_false_iff_ne.mpr c23
            have c23b1 : (t562 != 0) = true := bne_iff_ne.mpr c23
            have H' := Aside0.mk H
            clear H
            go_wp2
            go_meet
            case rel => exact ⟨_, (true), (by first | rfl | (simp; done) | (simp [*]; done) | (simp; omega)), H', ⟨by first | omega | exact Nat.le_refl _⟩, ⟨by repeat (first | (with_reducible first | exact HB.out | apply below_alloc | apply pw_below_drewN | apply below_drew1) | exact HB.out)⟩⟩
        · rw [if_neg c22] at H
          have c22b0 : (t558 == 0) = false := beq_eq_false_iff_ne.mpr c22
          have c22b1 : (t558 != 0) = true := bne_iff_ne.mpr c22
          (first | rw [c22b0] | (simp only [i64_w, i32_w]; rw [c22b0]) | skip)
          have H' := Aside0.mk H
          clear H
          go_wp2
          go_meet
          case rel => exact ⟨_, (true), (by first | rfl | (simp; done) | (simp [*]; done) | (simp; omega)), H', ⟨by first | omega | exact Nat.le_refl _⟩, ⟨by repeat (first | (with_reducible first | exact HB.out | apply below_alloc | apply pw_below_drewN | apply below_drew1) | exact HB.out)⟩⟩
      case rest =>
        clear HC12
        try clear c1
        try clear c2
        try clear p2
        try clear c3
        try clear c4
        try clear c5
        try clear c5b0
        try clear c5b1
        try clear p6
        try clear c8
        try clear c9
        try clear c11
        try clear c22
        try clear c22b0
        try clear c22b1
        try clear c23
        try clear c23b0
        try clear c23b1
        try clear c24
        try clear c24b0
        try clear c24b1
        try clear c26
        try clear c26b0
        try clear c28
        try clear c30
        try clear c31
        obtain ⟨kq, x70_11, rfl, HA, HJ11, HB⟩ := hcut
        cases kq with
        | zero => exact absurd HA.out (by simp [slipsticklaw01_NatParts.j0])
        | succ kj11 =>
          have H := HA.out
          clear HA
          simp only [slipsticklaw01_NatParts.j0] at H
          by_cases c35 : x70_11 = true
          · subst c35
            have H1 : (none) = some r := by rw [if_pos rfl] at H; exact H
            clear H
            have H := H1
            clear H1
            exact absurd H (by simp)
          · replace c35 := Bool.eq_false_iff.mpr c35
            subst c35
            have H1 : ((nat_Of.f kj11 1).bind fun t572 => ((nat_Nat_Len.f kj11 l0).bind fun t575 => ((nat_Nat_Left.f kj11 t572 t575).bind fun bt576 => (if bt576.2 = 0 then ((nat_Cmp.f kj11 l0 bt576.1).bind fun t580 => (if t580 < 0 then ((nat_Nat_Len.f kj11 l0).bind fun t581 => (if t581 = 0 then (some true) else ((nat_Nat_Len.f kj11 l0).bind fun t582 => ((nat_Nat_Bit.f l0 (wrap64 (t582 - 1))).bind fun t583 => (if t583 = 1 then ((nat_Nat_Zeros.f kj11 l0).bind fun t584 => ((nat_Nat_Bit.f l0 t584).bind fun t585 => (some (t585 == 1)))) else (none)))))) else (none))) else (none))))) = some r := by rw [if_neg (show ¬ (false = true) by decide)] at H; exact H
            clear H
            have H := H1
            clear H1
            replace H := Option.bind_eq_some_iff.mp H
            obtain ⟨t572, A360, H⟩ := H
            replace H : ((nat_Nat_Len.f kj11 l0).bind fun t575 => ((nat_Nat_Left.f kj11 t572 t575).bind fun bt576 => (if bt576.2 = 0 then ((nat_Cmp.f kj11 l0 bt576.1).bind fun t580 => (if t580 < 0 then ((nat_Nat_Len.f kj11 l0).bind fun t581 => (if t581 = 0 then (some true) else ((nat_Nat_Len.f kj11 l0).bind fun t582 => ((nat_Nat_Bit.f l0 (wrap64 (t582 - 1))).bind fun t583 => (if t583 = 1 then ((nat_Nat_Zeros.f kj11 l0).bind fun t584 => ((nat_Nat_Bit.f l0 t584).bind fun t585 => (some (t585 == 1)))) else (none)))))) else (none))) else (none)))) = some r := H
            have A36 := Aside0.mk A360
            clear A360
            replace H := Option.bind_eq_some_iff.mp H
            obtain ⟨t575, A370, H⟩ := H
            replace H : ((nat_Nat_Left.f kj11 t572 t575).bind fun bt576 => (if bt576.2 = 0 then ((nat_Cmp.f kj11 l0 bt576.1).bind fun t580 => (if t580 < 0 then ((nat_Nat_Len.f kj11 l0).bind fun t581 => (if t581 = 0 then (some true) else ((nat_Nat_Len.f kj11 l0).bind fun t582 => ((nat_Nat_Bit.f l0 (wrap64 (t582 - 1))).bind fun t583 => (if t583 = 1 then ((nat_Nat_Zeros.f kj11 l0).bind fun t584 => ((nat_Nat_Bit.f l0 t584).bind fun t585 => (some (t585 == 1)))) else (none)))))) else (none))) else (none))) = some r := H
            have A37 := Aside0.mk A370
            clear A370
            replace H := Option.bind_eq_some_iff.mp H
            obtain ⟨⟨t576, t579⟩, A380, H⟩ := H
            replace H : (if t579 = 0 then ((nat_Cmp.f kj11 l0 t576).bind fun t580 => (if t580 < 0 then ((nat_Nat_Len.f kj11 l0).bind fun t581 => (if t581 = 0 then (some true) else ((nat_Nat_Len.f kj11 l0).bind fun t582 => ((nat_Nat_Bit.f l0 (wrap64 (t582 - 1))).bind fun t583 => (if t583 = 1 then ((nat_Nat_Zeros.f kj11 l0).bind fun t584 => ((nat_Nat_Bit.f l0 t584).bind fun t585 => (some (t585 == 1)))) else (none)))))) else (none))) else (none)) = some r := H
            have A38 := Aside0.mk A380
            clear A380
            by_cases c39 : t579 = 0
            · rw [if_pos c39] at H
              have c39b0 : (t579 == 0) = true := beq_iff_eq.mpr c39
              have c39b1 : (t579 != 0) = false := bne_eq_false_iff_eq.mpr c39
              clear c39
              replace H := Option.bind_eq_some_iff.mp H
              obtain ⟨t580, A400, H⟩ := H
              replace H : (if t580 < 0 then ((nat_Nat_Len.f kj11 l0).bind fun t581 => (if t581 = 0 then (some true) else ((nat_Nat_Len.f kj11 l0).bind fun t582 => ((nat_Nat_Bit.f l0 (wrap64 (t582 - 1))).bind fun t583 => (if t583 = 1 then ((nat_Nat_Zeros.f kj11 l0).bind fun t584 => ((nat_Nat_Bit.f l0 t584).bind fun t585 => (some (t585 == 1)))) else (none)))))) else (none)) = some r := H
              have A40 := Aside0.mk A400
              clear A400
              by_cases c41 : t580 < 0
              · rw [if_pos c41] at H
                have c41b0 : decide (t580 < 0) = true := decide_eq_true c41
                clear c41
                replace H := Option.bind_eq_some_iff.mp H
                obtain ⟨t581, A420, H⟩ := H
                replace H : (if t581 = 0 then (some true) else ((nat_Nat_Len.f kj11 l0).bind fun t582 => ((nat_Nat_Bit.f l0 (wrap64 (t582 - 1))).bind fun t583 => (if t583 = 1 then ((nat_Nat_Zeros.f kj11 l0).bind fun t584 => ((nat_Nat_Bit.f l0 t584).bind fun t585 => (some (t585 == 1)))) else (none))))) = some r := H
                have A42 := Aside0.mk A420
                clear A420
                by_cases c43 : t581 = 0
                · rw [if_pos c43] at H
                  have c43b0 : (t581 == 0) = true := beq_iff_eq.mpr c43
                  have c43b1 : (t581 != 0) = false := bne_eq_false_iff_eq.mpr c43
                  clear c43
                  obtain rfl := Option.some.inj H
                  go_wp2_with (first | ((with_reducible refine gate_callee (f := 28) rfl ?_); refine goesL_ (some 72) rfl rfl Try.func28 (by kernel_rfl) rfl #[.int .u64 1] rfl (by (try simp only [List.map_toArray, List.map_cons, List.map_nil]); first | done | rfl | (simp only [List.length_drop, List.length_take]; rfl)) ?_; (with_reducible refine (nat_Of.calls kj11 1 t572 _ A36.out).mono ?_); rintro e w44 ⟨v573, rfl, ho0, hb⟩; refine ⟨_, rfl, ?_⟩; have n0_ := Aside0.mk (Kd.V_lower (Kd.V_mono (ok' := fun k_ => True) ho0 (fun k_ hk_ => trivial)) (below_size (by repeat (first | (with_reducible first | exact HB.out | apply below_alloc | apply pw_below_drewN | apply below_drew1) | exact HB.out)))); have n1_ := Aside0.mk (below_step (by repeat (first | (with_reducible first | exact HB.out | apply below_alloc | apply pw_below_drewN | apply below_drew1) | exact HB.out)) hb); clear HB; have HO574 := n0_; have HB := n1_; clear n0_ n1_; (try clear hb); (try clear hb2); (try clear hk); (try clear hi); (try clear ho0)) | ((with_reducible refine gate_callee (f := 24) rfl ?_); refine goesL_ (some 74) rfl rfl Try.func24 (by kernel_rfl) rfl #[.slice A0 l0.length c0] rfl (by (try simp only [List.map_toArray, List.map_cons, List.map_nil]); first | done | rfl | (simp only [List.length_drop, List.length_take]; rfl)) ?_; (with_reducible refine (nat_Nat_Len.calls kj11 _ _ l0 t575 _ ?side1 ?side2 A37.out).mono ?_); (case side1 => repeat (first | exact (Kd.C_below HR0.out HB.out) | (with_reducible refine Kd.C_alloc ?_ _) | (with_reducible refine Kd.C_drewN ?_ _) | (with_reducible refine Kd.C_drew ?_))); (case side2 => exact HC0.out); rintro e w45 ⟨rfl, hb⟩; refine ⟨_, rfl, ?_⟩; have n0_ := Aside0.mk (Kd.V_below (by (with_reducible repeat (first | apply Kd.V_alloc | apply Kd.V_drewN | apply Kd.V_drew)); exact HO574.out) hb); have n1_ := Aside0.mk (below_step (by repeat (first | (with_reducible first | exact HB.out | apply below_alloc | apply pw_below_drewN | apply below_drew1) | exact HB.out)) hb); clear HO574; clear HB; have HO574 := n0_; have HB := n1_; clear n0_ n1_; (try clear hb); (try clear hb2); (try clear hk); (try clear hi); obtain ⟨Ao46, co46, eo46⟩ := Kd.V_slice HO574.out; subst eo46) | ((with_reducible refine gate_callee (f := 30) rfl ?_); refine goesL_ (some 75) rfl rfl Try.func30 (by kernel_rfl) rfl #[.slice Ao46 t572.length co46, .int .i64 t575] rfl (by (try simp only [List.map_toArray, List.map_cons, List.map_nil]); first | done | rfl | (simp only [List.length_drop, List.length_take]; rfl)) ?_; (with_reducible refine (nat_Nat_Left.calls kj11 _ _ t572 t575 t576 t579 _ ?side1 ?side2 A38.out).mono ?_); (case side1 => repeat (first | exact (Kd.V_reads' HO574.out).2.2 | (with_reducible refine Kd.C_alloc ?_ _) | (with_reducible refine Kd.C_drewN ?_ _) | (with_reducible refine Kd.C_drew ?_))); (case side2 => exact (Kd.V_reads' HO574.out).2.1); rintro e w47 ⟨v577, rfl, ho0, hb⟩; refine ⟨_, rfl, ?_⟩; have n0_ := Aside0.mk (Kd.V_below (by (with_reducible repeat (first | apply Kd.V_alloc | apply Kd.V_drewN | apply Kd.V_drew)); exact HO574.out) hb); have n1_ := Aside0.mk (Kd.V_lower (Kd.V_mono (ok' := fun k_ => True) ho0 (fun k_ hk_ => trivial)) (below_size (by repeat (first | (with_reducible first | exact HB.out | apply below_alloc | apply pw_below_drewN | apply below_drew1) | exact HB.out)))); have n2_ := Aside0.mk (below_step (by repeat (first | (with_reducible first | exact HB.out | apply below_alloc | apply pw_below_drewN | apply below_drew1) | exact HB.out)) hb); clear HO574; clear HB; have HO574 := n0_; have HO578 := n1_; have HB := n2_; clear n0_ n1_ n2_; (try clear hb); (try clear hb2); (try clear hk); (try clear hi); (try clear ho0); obtain ⟨Ao48, co48, eo48⟩ := Kd.V_slice HO578.out; subst eo48) | (go_at_call 20; (with_reducible refine (nat_Cmp.calls kj11 _ _ l0 _ _ t576 t580 _ ?side1 ?side2 ?side3 ?side4 A40.out).mono ?_); (case side1 => repeat (first | exact (Kd.C_below HR0.out HB.out) | (with_reducible refine Kd.C_alloc ?_ _) | (with_reducible refine Kd.C_drewN ?_ _) | (with_reducible refine Kd.C_drew ?_))); (case side2 => exact HC0.out); (case side3 => repeat (first | exact (Kd.V_reads' HO578.out).2.2 | (with_reducible refine Kd.C_alloc ?_ _) | (with_reducible refine Kd.C_drewN ?_ _) | (with_reducible refine Kd.C_drew ?_))); (case side4 => exact (Kd.V_reads' HO578.out).2.1); rintro e w49 ⟨rfl, hb⟩; have n0_ := Aside0.mk (Kd.V_below (by (with_reducible repeat (first | apply Kd.V_alloc | apply Kd.V_drewN | apply Kd.V_drew)); exact HO574.out) hb); have n1_ := Aside0.mk (Kd.V_below (by (with_reducible repeat (first | apply Kd.V_alloc | apply Kd.V_drewN | apply Kd.V_drew)); exact HO578.out) hb); have n2_ := Aside0.mk (below_step (by repeat (first | (with_reducible first | exact HB.out | apply below_alloc | apply pw_below_drewN | apply below_drew1) | exact HB.out)) hb); clear HO574; clear HO578; clear HB; have HO574 := n0_; have HO578 := n1_; have HB := n2_; clear n0_ n1_ n2_; (try clear hb); (try clear hb2); (try clear hk); (try clear hi)) | (go_at_call 24; (with_reducible refine (nat_Nat_Len.calls kj11 _ _ l0 t581 _ ?side1 ?side2 A42.out).mono ?_); (case side1 => repeat (first | exact (Kd.C_below HR0.out HB.out) | (with_reducible refine Kd.C_alloc ?_ _) | (with_reducible refine Kd.C_drewN ?_ _) | (with_reducible refine Kd.C_drew ?_))); (case side2 => exact HC0.out); rintro e w50 ⟨rfl, hb⟩; have n0_ := Aside0.mk (Kd.V_below (by (with_reducible repeat (first | apply Kd.V_alloc | apply Kd.V_drewN | apply Kd.V_drew)); exact HO574.out) hb); have n1_ := Aside0.mk (Kd.V_below (by (with_reducible repeat (first | apply Kd.V_alloc | apply Kd.V_drewN | apply Kd.V_drew)); exact HO578.out) hb); have n2_ := Aside0.mk (below_step (by repeat (first | (with_reducible first | exact HB.out | apply below_alloc | apply pw_below_drewN | apply below_drew1) | exact HB.out)) hb); clear HO574; clear HO578; clear HB; have HO574 := n0_; have HO578 := n1_; have HB := n2_; clear n0_ n1_ n2_; (try clear hb); (try clear hb2); (try clear hk); (try clear hi)))
                  go_ret
                  exact ⟨by first | rfl | (simp [errW_none, errW_some] <;> rfl) | (simp [*, errW_none, errW_some] <;> rfl), by repeat (first | (with_reducible first | exact HB.out | apply below_alloc | apply pw_below_drewN | apply below_drew1) | exact HB.out)⟩
                · rw [if_neg c43] at H
                  have c43b0 : (t581 == 0) = false := beq_eq_false_iff_ne.mpr c43
                  have c43b1 : (t581 != 0) = true := bne_iff_ne.mpr c43
                  replace H := Option.bind_eq_some_iff.mp H
                  obtain ⟨t582, A510, H⟩ := H
                  replace H : ((nat_Nat_Bit.f l0 (wrap64 (t582 - 1))).bind fun t583 => (if t583 = 1 then ((nat_Nat_Zeros.f kj11 l0).bind fun t584 => ((nat_Nat_Bit.f l0 t584).bind fun t585 => (some (t585 == 1)))) else (none))) = some r := H
                  have A51 := Aside0.mk A510
                  clear A510
                  replace H := Option.bind_eq_some_iff.mp H
                  obtain ⟨t583, A520, H⟩ := H
                  replace H : (if t583 = 1 then ((nat_Nat_Zeros.f kj11 l0).bind fun t584 => ((nat_Nat_Bit.f l0 t584).bind fun t585 => (some (t585 == 1)))) else (none)) = some r := H
                  have A52 := Aside0.mk A520
                  clear A520
                  by_cases c53 : t583 = 1
                  · rw [if_pos c53] at H
                    have c53b0 : (t583 == 1) = true := beq_iff_eq.mpr c53
                    have c53b1 : (t583 != 1) = false := bne_eq_false_iff_eq.mpr c53
                    clear c53
                    replace H := Option.bind_eq_some_iff.mp H
                    obtain ⟨t584, A540, H⟩ := H
                    replace H : ((nat_Nat_Bit.f l0 t584).bind fun t585 => (some (t585 == 1))) = some r := H
                    have A54 := Aside0.mk A540
                    clear A540
                    replace H := Option.bind_eq_some_iff.mp H
                    obtain ⟨t585, A550, H⟩ := H
                    replace H : (some (t585 == 1)) = some r := H
                    have A55 := Aside0.mk A550
                    clear A550
                    obtain rfl := Option.some.inj H
                    have tok21 := Aside0.mk trivial; have tok20 := Aside0.mk trivial; have tok19 := Aside0.mk trivial; have tok18 := Aside0.mk trivial
                    go_wp2_with (first | ((with_reducible refine gate_callee (f := 28) rfl ?_); refine goesL_ (some 72) rfl rfl Try.func28 (by kernel_rfl) rfl #[.int .u64 1] rfl (by (try simp only [List.map_toArray, List.map_cons, List.map_nil]); first | done | rfl | (simp only [List.length_drop, List.length_take]; rfl)) ?_; (with_reducible refine (nat_Of.calls kj11 1 t572 _ A36.out).mono ?_); rintro e w56 ⟨v573, rfl, ho0, hb⟩; refine ⟨_, rfl, ?_⟩; have n0_ := Aside0.mk (Kd.V_lower (Kd.V_mono (ok' := fun k_ => True) ho0 (fun k_ hk_ => trivial)) (below_size (by repeat (first | (with_reducible first | exact HB.out | apply below_alloc | apply pw_below_drewN | apply below_drew1) | exact HB.out)))); have n1_ := Aside0.mk (below_step (by repeat (first | (with_reducible first | exact HB.out | apply below_alloc | apply pw_below_drewN | apply below_drew1) | exact HB.out)) hb); clear HB; have HO574 := n0_; have HB := n1_; clear n0_ n1_; (try clear hb); (try clear hb2); (try clear hk); (try clear hi); (try clear ho0)) | ((with_reducible refine gate_callee (f := 24) rfl ?_); refine goesL_ (some 74) rfl rfl Try.func24 (by kernel_rfl) rfl #[.slice A0 l0.length c0] rfl (by (try simp only [List.map_toArray, List.map_cons, List.map_nil]); first | done | rfl | (simp only [List.length_drop, List.length_take]; rfl)) ?_; (with_reducible refine (nat_Nat_Len.calls kj11 _ _ l0 t575 _ ?side1 ?side2 A37.out).mono ?_); (case side1 => repeat (first | exact (Kd.C_below HR0.out HB.out) | (with_reducible refine Kd.C_alloc ?_ _) | (with_reducible refine Kd.C_drewN ?_ _) | (with_reducible refine Kd.C_drew ?_))); (case side2 => exact HC0.out); rintro e w57 ⟨rfl, hb⟩; refine ⟨_, rfl, ?_⟩; have n0_ := Aside0.mk (Kd.V_below (by (with_reducible repeat (first | apply Kd.V_alloc | apply Kd.V_drewN | apply Kd.V_drew)); exact HO574.out) hb); have n1_ := Aside0.mk (below_step (by repeat (first | (with_reducible first | exact HB.out | apply below_alloc | apply pw_below_drewN | apply below_drew1) | exact HB.out)) hb); clear HO574; clear HB; have HO574 := n0_; have HB := n1_; clear n0_ n1_; (try clear hb); (try clear hb2); (try clear hk); (try clear hi); obtain ⟨Ao58, co58, eo58⟩ := Kd.V_slice HO574.out; subst eo58) | ((with_reducible refine gate_callee (f := 30) rfl ?_); refine goesL_ (some 75) rfl rfl Try.func30 (by kernel_rfl) rfl #[.slice Ao58 t572.length co58, .int .i64 t575] rfl (by (try simp only [List.map_toArray, List.map_cons, List.map_nil]); first | done | rfl | (simp only [List.length_drop, List.length_take]; rfl)) ?_; (with_reducible refine (nat_Nat_Left.calls kj11 _ _ t572 t575 t576 t579 _ ?side1 ?side2 A38.out).mono ?_); (case side1 => repeat (first | exact (Kd.V_reads' HO574.out).2.2 | (with_reducible refine Kd.C_alloc ?_ _) | (with_reducible refine Kd.C_drewN ?_ _) | (with_reducible refine Kd.C_drew ?_))); (case side2 => exact (Kd.V_reads' HO574.out).2.1); rintro e w59 ⟨v577, rfl, ho0, hb⟩; refine ⟨_, rfl, ?_⟩; have n0_ := Aside0.mk (Kd.V_below (by (with_reducible repeat (first | apply Kd.V_alloc | apply Kd.V_drewN | apply Kd.V_drew)); exact HO574.out) hb); have n1_ := Aside0.mk (Kd.V_lower (Kd.V_mono (ok' := fun k_ => True) ho0 (fun k_ hk_ => trivial)) (below_size (by repeat (first | (with_reducible first | exact HB.out | apply below_alloc | apply pw_below_drewN | apply below_drew1) | exact HB.out)))); have n2_ := Aside0.mk (below_step (by repeat (first | (with_reducible first | exact HB.out | apply below_alloc | apply pw_below_drewN | apply below_drew1) | exact HB.out)) hb); clear HO574; clear HB; have HO574 := n0_; have HO578 := n1_; have HB := n2_; clear n0_ n1_ n2_; (try clear hb); (try clear hb2); (try clear hk); (try clear hi); (try clear ho0); obtain ⟨Ao60, co60, eo60⟩ := Kd.V_slice HO578.out; subst eo60) | (go_at_call 20; (with_reducible refine (nat_Cmp.calls kj11 _ _ l0 _ _ t576 t580 _ ?side1 ?side2 ?side3 ?side4 A40.out).mono ?_); (case side1 => repeat (first | exact (Kd.C_below HR0.out HB.out) | (with_reducible refine Kd.C_alloc ?_ _) | (with_reducible refine Kd.C_drewN ?_ _) | (with_reducible refine Kd.C_drew ?_))); (case side2 => exact HC0.out); (case side3 => repeat (first | exact (Kd.V_reads' HO578.out).2.2 | (with_reducible refine Kd.C_alloc ?_ _) | (with_reducible refine Kd.C_drewN ?_ _) | (with_reducible refine Kd.C_drew ?_))); (case side4 => exact (Kd.V_reads' HO578.out).2.1); rintro e w61 ⟨rfl, hb⟩; have n0_ := Aside0.mk (Kd.V_below (by (with_reducible repeat (first | apply Kd.V_alloc | apply Kd.V_drewN | apply Kd.V_drew)); exact HO574.out) hb); have n1_ := Aside0.mk (Kd.V_below (by (with_reducible repeat (first | apply Kd.V_alloc | apply Kd.V_drewN | apply Kd.V_drew)); exact HO578.out) hb); have n2_ := Aside0.mk (below_step (by repeat (first | (with_reducible first | exact HB.out | apply below_alloc | apply pw_below_drewN | apply below_drew1) | exact HB.out)) hb); clear HO574; clear HO578; clear HB; have HO574 := n0_; have HO578 := n1_; have HB := n2_; clear n0_ n1_ n2_; (try clear hb); (try clear hb2); (try clear hk); (try clear hi)) | (go_at_call 24; clear tok21; (with_reducible refine (nat_Nat_Len.calls kj11 _ _ l0 t581 _ ?side1 ?side2 A42.out).mono ?_); (case side1 => repeat (first | exact (Kd.C_below HR0.out HB.out) | (with_reducible refine Kd.C_alloc ?_ _) | (with_reducible refine Kd.C_drewN ?_ _) | (with_reducible refine Kd.C_drew ?_))); (case side2 => exact HC0.out); rintro e w62 ⟨rfl, hb⟩; have n0_ := Aside0.mk (Kd.V_below (by (with_reducible repeat (first | apply Kd.V_alloc | apply Kd.V_drewN | apply Kd.V_drew)); exact HO574.out) hb); have n1_ := Aside0.mk (Kd.V_below (by (with_reducible repeat (first | apply Kd.V_alloc | apply Kd.V_drewN | apply Kd.V_drew)); exact HO578.out) hb); have n2_ := Aside0.mk (below_step (by repeat (first | (with_reducible first | exact HB.out | apply below_alloc | apply pw_below_drewN | apply below_drew1) | exact HB.out)) hb); clear HO574; clear HO578; clear HB; have HO574 := n0_; have HO578 := n1_; have HB := n2_; clear n0_ n1_ n2_; (try clear hb); (try clear hb2); (try clear hk); (try clear hi)) | (go_at_call 24; clear tok20; (with_reducible refine (nat_Nat_Len.calls kj11 _ _ l0 t582 _ ?side1 ?side2 A51.out).mono ?_); (case side1 => repeat (first | exact (Kd.C_below HR0.out HB.out) | (with_reducible refine Kd.C_alloc ?_ _) | (with_reducible refine Kd.C_drewN ?_ _) | (with_reducible refine Kd.C_drew ?_))); (case side2 => exact HC0.out); rintro e w63 ⟨rfl, hb⟩; have n0_ := Aside0.mk (Kd.V_below (by (with_reducible repeat (first | apply Kd.V_alloc | apply Kd.V_drewN | apply Kd.V_drew)); exact HO574.out) hb); have n1_ := Aside0.mk (Kd.V_below (by (with_reducible repeat (first | apply Kd.V_alloc | apply Kd.V_drewN | apply Kd.V_drew)); exact HO578.out) hb); have n2_ := Aside0.mk (below_step (by repeat (first | (with_reducible first | exact HB.out | apply below_alloc | apply pw_below_drewN | apply below_drew1) | exact HB.out)) hb); clear HO574; clear HO578; clear HB; have HO574 := n0_; have HO578 := n1_; have HB := n2_; clear n0_ n1_ n2_; (try clear hb); (try clear hb2); (try clear hk); (try clear hi)) | (go_at_call 25; clear tok19; (with_reducible refine (nat_Nat_Bit.calls _ _ l0 (wrap64 (t582 - 1)) t583 _ ?side1 ?side2 A52.out).mono ?_); (case side1 => repeat (first | exact (Kd.C_below HR0.out HB.out) | (with_reducible refine Kd.C_alloc ?_ _) | (with_reducible refine Kd.C_drewN ?_ _) | (with_reducible refine Kd.C_drew ?_))); (case side2 => exact HC0.out); rintro e w' ⟨rfl, ⟨nd, rfl⟩⟩) | (go_at_call 26; (with_reducible refine (nat_Nat_Zeros.calls kj11 _ _ l0 t584 _ ?side1 ?side2 A54.out).mono ?_); (case side1 => repeat (first | exact (Kd.C_below HR0.out (by repeat (first | (with_reducible first | exact HB.out | apply below_alloc | apply pw_below_drewN | apply below_drew1) | exact HB.out))) | (with_reducible refine Kd.C_alloc ?_ _) | (with_reducible refine Kd.C_drewN ?_ _) | (with_reducible refine Kd.C_drew ?_))); (case side2 => exact HC0.out); rintro e w' ⟨rfl, ⟨nd, rfl⟩⟩) | (go_at_call 25; clear tok18; (with_reducible refine (nat_Nat_Bit.calls _ _ l0 t584 t585 _ ?side1 ?side2 A55.out).mono ?_); (case side1 => repeat (first | exact (Kd.C_below HR0.out (by repeat (first | (with_reducible first | exact HB.out | apply below_alloc | apply pw_below_drewN | apply below_drew1) | exact HB.out))) | (with_reducible refine Kd.C_alloc ?_ _) | (with_reducible refine Kd.C_drewN ?_ _) | (with_reducible refine Kd.C_drew ?_))); (case side2 => exact HC0.out); rintro e w' ⟨rfl, ⟨nd, rfl⟩⟩))
                    go_ret
                    exact ⟨by first | rfl | (simp [errW_none, errW_some] <;> rfl) | (simp [*, errW_none, errW_some] <;> rfl), by repeat (first | (with_reducible first | exact HB.out | apply below_alloc | apply pw_below_drewN | apply below_drew1) | exact HB.out)⟩
                  · rw [if_neg c53] at H
                    exact absurd H (by simp)
              · rw [if_neg c41] at H
                exact absurd H (by simp)
            · rw [if_neg c39] at H
              exact absurd H (by simp)
  · replace c4 := Bool.eq_false_iff.mpr c4
    subst c4
    have H1 : (none) = some r := by rw [if_neg (show ¬ (false = true) by decide)] at H; exact H
    clear H
    have H := H1
    clear H1
    exact absurd H (by simp)

/-- THE ONE PURE STATEMENT of slipsticklaw01_NatParts: yours. -/
def slipsticklaw01_NatParts.Pure : Prop := ∀ (l0 : List Int) (a1 : Int), l0.length ≤ maxLen → l0.length * 4 ≤ 140737488351232 → (∀ x ∈ l0, (Lit.int .u32 x).wf = true) → (Lit.int .u16 a1).wf = true → ∃ k, slipsticklaw01_NatParts.f k l0 a1 = some true
theorem slipsticklaw01_NatParts.walk (P : slipsticklaw01_NatParts.Pure) (a0 : Option Addr) (len0 cap0 : Nat) (z0 : List Int) (a1 : Int) (w : World) (w0 : (a0 = none ∧ len0 = 0 ∧ cap0 = 0 ∧ z0 = []) ∨ ∃ x, a0 = some x ∧ len0 ≤ cap0 ∧ cap0 ≤ maxLen ∧ z0.length = cap0 ∧ (∀ i, i < z0.length → w.cell? (x.add i) = some (.int .u32 (z0.getD i 0))) ∧ ∀ n ∈ z0, (Lit.int .u32 n).wf = true) (y0 : len0 * 4 ≤ 140737488351232) (w1 : (Lit.int .u16 a1).wf = true) :
    Calls Try.prog 8 #[.slice a0 len0 cap0, .int .u16 a1] w fun e w' => e = .returned (.bool true) ∧ Below w.heap.size w w' := by
  obtain ⟨l0, rfl, hr0, hm0, hw0, hc0⟩ := ReadsInt.ofRowC w0
  obtain ⟨k, h⟩ := P l0 a1 hm0 y0 hw0 w1
  refine (slipsticklaw01_NatParts.calls k _ _ l0 a1 true w (Kd.C_of_reads (d := (0 : Int)) (h1 := fun _ => rfl) hr0) hc0 h).mono ?_
  rintro e w' ⟨rfl, hd⟩
  exact ⟨rfl, hd⟩

end Go.Proofs.Ytgccgmpfcnhbgaa.P
