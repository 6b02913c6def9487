-- made by a changed copy of the kit's print (wip/hack.py)
import Derived.Test.YtlaffgojgfdlnaaPx0
import Derived.Test.YtlaffgojgfdlnaaPx1
namespace Go.Proofs.Ytlaffgojgfdlnaa.P
open Go.RowKit Go.Proofs.YtlaffgojgfdlnaaW.PrintWords Go.Proofs.YtlaffgojgfdlnaaW.PrintLast Go.Proofs.YtlaffgojgfdlnaaW.PrintMore
attribute [local go_sem] max2_int min2_int max_two min_two max_three min_three max_four min_four   -- for this text's walks alone
set_option linter.unusedVariables false
set_option linter.unusedSimpArgs false

/-! ### nat_Nat_Right: function 71 -/
mutual
def nat_Nat_Right.j0 : Nat → List Int → Int → Bool → Option (List Int × Bool)
  | 0, _, _, _ => none
  | k + 1, x0, x1, x7 => if 0 ≤ (x0.length : Int) then (if ((x0.length : Int) : Int).toNat ≤ 70368744177664 then ((some (List.replicate ((x0.length : Int) : Int).toNat 0 : List Int)).bind fun y121 => (nat_Nat_Right.l0 k x0 x1 x7 y121 (y121.length : Int) 0)) else (none)) else (none)
def nat_Nat_Right.l0 : Nat → List Int → Int → Bool → List Int → Int → Int → Option (List Int × Bool)
  | 0, _, _, _, _, _, _ => none
  | k + 1, x0, x1, x7, x8, x30, x31 => if x31 < x30 then ((nat_Nat_part.f x0 (wrap64 ((wrap64 (x31 + (wrap64 (Int.tdiv x1 32)))) + 1))).bind fun t124 => ((nat_Nat_part.f x0 (wrap64 (x31 + (wrap64 (Int.tdiv x1 32))))).bind fun t125 => (if 0 ≤ (Int.tmod x1 32) then (if 0 ≤ x31 then (if x31 < (x8.length : Int) then (nat_Nat_Right.l0 k x0 x1 x7 (x8.set (x31 : Int).toNat ((shr .u64 (Go.bits .or .u64 (IntKind.u64.wrap ((IntKind.u64.wrap (t124)) * 4294967296)) (IntKind.u64.wrap (t125))) (Int.tmod x1 32)) % 4294967296)) x30 (wrap64 (x31 + 1))) else (none)) else (none)) else (none)))) else ((nat_told.f k x8).bind fun t127 => (some (t127, x7)))
end
def nat_Nat_Right.f (k : Nat) (l0 : List Int) (a1 : Int) : Option (List Int × Bool) := (nat_Nat_Len.f k l0).bind fun t119 => (if (mn (mx a1 0) t119) > 0 then ((nat_Nat_Zeros.f k l0).bind fun t120 => (nat_Nat_Right.j0 k l0 (mn (mx a1 0) t119) (decide (t120 < (mn (mx a1 0) t119))))) else (nat_Nat_Right.j0 k l0 (mn (mx a1 0) t119) false))
theorem nat_Nat_Right.mono_l : ∀ k, (∀ y0 y1 y2, LeO (nat_Nat_Right.j0 k y0 y1 y2) (nat_Nat_Right.j0 (k + 1) y0 y1 y2)) ∧ (∀ y0 y1 y2 y3 y4 y5, LeO (nat_Nat_Right.l0 k y0 y1 y2 y3 y4 y5) (nat_Nat_Right.l0 (k + 1) y0 y1 y2 y3 y4 y5))
  | 0 => ⟨fun _ _ _ r h => by simp [nat_Nat_Right.j0] at h, fun _ _ _ _ _ _ r h => by simp [nat_Nat_Right.l0] at h⟩
  | k + 1 => by
    obtain ⟨ih0, ih1⟩ := nat_Nat_Right.mono_l k
    refine ⟨?_, ?_⟩
    · intro y0 y1 y2
      unfold nat_Nat_Right.j0
      repeat' first
      | (with_reducible exact ih0 _ _ _)
      | (with_reducible exact ih1 _ _ _ _ _ _)
      | (with_reducible exact nat_Nat_Len.mono _ _)
      | (with_reducible exact nat_Nat_Zeros.mono _ _)
      | (with_reducible exact nat_told.mono _ _)
      | (with_reducible exact LeO.refl _)
      | (with_reducible exact LeO.none _)
      | (with_reducible refine LeO.ite ?_ ?_)
      | (with_reducible refine LeO.bind ?_ (fun _ => ?_))
      | exact ih0 _ _ _
      | exact ih1 _ _ _ _ _ _
      | exact nat_Nat_Len.mono _ _
      | exact nat_Nat_Zeros.mono _ _
      | exact nat_told.mono _ _
      | exact LeO.none _
      | refine LeO.ite ?_ ?_
      | refine LeO.bind ?_ (fun _ => ?_)
    · intro y0 y1 y2 y3 y4 y5
      unfold nat_Nat_Right.l0
      repeat' first
      | (with_reducible exact ih0 _ _ _)
      | (with_reducible exact ih1 _ _ _ _ _ _)
      | (with_reducible exact nat_Nat_Len.mono _ _)
      | (with_reducible exact nat_Nat_Zeros.mono _ _)
      | (with_reducible exact nat_told.mono _ _)
      | (with_reducible exact LeO.refl _)
      | (with_reducible exact LeO.none _)
      | (with_reducible refine LeO.ite ?_ ?_)
      | (with_reducible refine LeO.bind ?_ (fun _ => ?_))
      | exact ih0 _ _ _
      | exact ih1 _ _ _ _ _ _
      | exact nat_Nat_Len.mono _ _
      | exact nat_Nat_Zeros.mono _ _
      | exact nat_told.mono _ _
      | exact LeO.none _
      | refine LeO.ite ?_ ?_
      | refine LeO.bind ?_ (fun _ => ?_)
theorem nat_Nat_Right.mono : ∀ a0 a1 k, LeO (nat_Nat_Right.f k a0 a1) (nat_Nat_Right.f (k + 1) a0 a1) := by
  intro a0 a1 k
  obtain ⟨ih0, ih1⟩ := nat_Nat_Right.mono_l k
  unfold nat_Nat_Right.f
  repeat' first
      | (with_reducible exact ih0 _ _ _)
      | (with_reducible exact ih1 _ _ _ _ _ _)
      | (with_reducible exact nat_Nat_Len.mono _ _)
      | (with_reducible exact nat_Nat_Zeros.mono _ _)
      | (with_reducible exact nat_told.mono _ _)
      | (with_reducible exact LeO.refl _)
      | (with_reducible exact LeO.none _)
      | (with_reducible refine LeO.ite ?_ ?_)
      | (with_reducible refine LeO.bind ?_ (fun _ => ?_))
      | exact ih0 _ _ _
      | exact ih1 _ _ _ _ _ _
      | exact nat_Nat_Len.mono _ _
      | exact nat_Nat_Zeros.mono _ _
      | exact nat_told.mono _ _
      | exact LeO.none _
      | refine LeO.ite ?_ ?_
      | refine LeO.bind ?_ (fun _ => ?_)
set_option maxHeartbeats 8000000 in
set_option maxRecDepth 100000 in
theorem nat_Nat_Right.calls (k : Nat) (A0 : Option Addr) (c0 : Nat) (l0 : List Int) (a1 : Int) (r1 : List Int) (r2 : Bool) (w : World) (hr0 : Kd.C (Kd.int .u32) w A0 l0.length l0) (hc0 : l0.length ≤ c0) (h : nat_Nat_Right.f k l0 a1 = some (r1, r2)) :
    Calls Try.prog 71 #[.slice A0 l0.length c0, .int .i64 a1] w fun e w' => ∃ v0_ : Value, e = .returned (.tuple #[v0_, .bool r2]) ∧ Kd.V (Kd.int .u32) 89 w' w.heap.size (fun k_ => (w.heap.size ≤ k_)) v0_ r1 ∧ Below w.heap.size w w' := by
  have HR0 := Aside0.mk hr0
  have HC0 := Aside0.mk hc0
  clear hr0 hc0
  have HB := Aside0.mk (Below.refl w.heap.size w)
  have H : ((nat_Nat_Len.f k l0).bind fun t119 => (if (mn (mx a1 0) t119) > 0 then ((nat_Nat_Zeros.f k l0).bind fun t120 => (nat_Nat_Right.j0 k l0 (mn (mx a1 0) t119) (decide (t120 < (mn (mx a1 0) t119))))) else (nat_Nat_Right.j0 k l0 (mn (mx a1 0) t119) false))) = some (r1, r2) := h
  clear h
  replace H := Option.bind_eq_some_iff.mp H
  obtain ⟨t119, A30, H⟩ := H
  replace H : (if (mn (mx a1 0) t119) > 0 then ((nat_Nat_Zeros.f k l0).bind fun t120 => (nat_Nat_Right.j0 k l0 (mn (mx a1 0) t119) (decide (t120 < (mn (mx a1 0) t119))))) else (nat_Nat_Right.j0 k l0 (mn (mx a1 0) t119) false)) = some (r1, r2) := H
  have A3 := Aside0.mk A30
  clear A30
  obtain ⟨ji4, hji4⟩ : ∃ j_ : Int, (mx a1 0) = j_ := ⟨_, rfl⟩
  replace H : (if (mn (ji4) t119) > 0 then ((nat_Nat_Zeros.f k l0).bind fun t120 => (nat_Nat_Right.j0 k l0 (mn (ji4) t119) (decide (t120 < (mn (ji4) t119))))) else (nat_Nat_Right.j0 k l0 (mn (ji4) t119) false)) = some (r1, r2) := by first | (rw [hji4] at H; exact H) | (simp only [hji4] at H ⊢; exact H)
  (try rw [hji4] at A3)
  (try (have hji4l : 0 ≤ ji4 := by (rw [← hji4]; unfold mx; (repeat' split) <;> omega)))
  (try (have hji4m : 0 ≤ ji4 := by omega))
  have hji4_ : (if a1 < 0 then 0 else a1) = ji4 := hji4
  obtain ⟨ji5, hji5⟩ : ∃ j_ : Int, (mn (ji4) t119) = j_ := ⟨_, rfl⟩
  replace H : (if (ji5) > 0 then ((nat_Nat_Zeros.f k l0).bind fun t120 => (nat_Nat_Right.j0 k l0 ji5 (decide (t120 < (ji5))))) else (nat_Nat_Right.j0 k l0 ji5 false)) = some (r1, r2) := by first | (rw [hji5] at H; exact H) | (simp only [hji5] at H ⊢; exact H)
  (try rw [hji5] at A3)
  have hji5_ : (if t119 < (ji4) then t119 else (ji4)) = ji5 := hji5
  have HC6 := Aside0.mk H
  clear H
  go_enter Try.func71, Try.ntmps71
  go_upto_region 3 with (first | ((with_reducible refine gate_callee (f := 38) rfl ?_); refine goesL_ (some 13) rfl rfl Try.func38 (by kernel_rfl) rfl #[.slice A0 l0.length c0] rfl (by (try simp only [List.map_toArray, List.map_cons, List.map_nil]); first | done | rfl | (simp only [List.length_drop, List.length_take]; rfl)) ?_; (with_reducible refine (nat_Nat_Len.calls k _ _ l0 t119 _ ?side1 ?side2 A3.out).mono ?_); (case side1 => repeat (first | exact HR0.out | (with_reducible refine Kd.C_alloc ?_ _) | (with_reducible refine Kd.C_drewN ?_ _) | (with_reducible refine Kd.C_drew ?_))); (case side2 => exact HC0.out); rintro e w7 ⟨rfl, hb⟩; refine ⟨_, rfl, ?_⟩; have n0_ := Aside0.mk (below_step (by repeat (first | (with_reducible first | exact HB.out | apply below_alloc | apply pw_below_drewN | apply below_drew1) | exact HB.out)) hb); clear HB; have HB := n0_; clear n0_; (try clear hb); (try clear hb2); (try clear hk); (try clear hi)))
  (try simp only [Act.put, List.setIfInBounds_toArray, List.set_cons_zero, List.set_cons_succ])
  go_cut [7] (fun v7 wc => ∃ (kq : Nat) (x7_5 : Bool), v7 = .bool x7_5 ∧ Aside0 (nat_Nat_Right.j0 kq l0 ji5 x7_5 = some (r1, r2)) ∧ Aside0 (kq ≤ k) ∧ Aside0 (Below w.heap.size w wc))
  case first =>
    have H := HC6.out
    clear HC6
    by_cases c8 : (ji5) > 0
    · rw [if_pos c8] at H
      have c8b0 : decide (0 < (ji5)) = true := decide_eq_true c8
      clear c8
      (first | rw [c8b0] | (simp only [i64_w, i32_w]; rw [c8b0]) | skip)
      replace H := Option.bind_eq_some_iff.mp H
      obtain ⟨t120, A90, H⟩ := H
      replace H : (nat_Nat_Right.j0 k l0 ji5 (decide (t120 < (ji5)))) = some (r1, r2) := H
      have A9 := Aside0.mk A90
      clear A90
      have H' := Aside0.mk H
      clear H
      go_wp2_with (first | (go_at_call 70; (with_reducible refine (nat_Nat_Zeros.calls k _ _ l0 t120 _ ?side1 ?side2 A9.out).mono ?_); (case side1 => repeat (first | exact (Kd.C_below HR0.out HB.out) | (with_reducible refine Kd.C_alloc ?_ _) | (with_reducible refine Kd.C_drewN ?_ _) | (with_reducible refine Kd.C_drew ?_))); (case side2 => exact HC0.out); rintro e w' ⟨rfl, ⟨nd, rfl⟩⟩))
      go_meet
      case rel => exact ⟨_, (decide (t120 < (ji5))), (by first | rfl | (simp; done) | (simp only [← hji5] <;> (first | rfl | simp)) | (simp [*]; done) | (simp; omega)), H', ⟨by first | omega | exact Nat.le_refl _⟩, ⟨by repeat (first | (with_reducible first | exact HB.out | apply below_alloc | apply pw_below_drewN | apply below_drew1) | exact HB.out)⟩⟩
    · rw [if_neg c8] at H
      have c8b0 : decide (0 < (ji5)) = false := decide_eq_false c8
      clear c8
      (first | rw [c8b0] | (simp only [i64_w, i32_w]; rw [c8b0]) | skip)
      have H' := Aside0.mk H
      clear H
      go_wp2
      go_meet
      case rel => exact ⟨_, (false), (by first | rfl | (simp; done) | (simp [*]; done) | (simp; omega)), H', ⟨by first | omega | exact Nat.le_refl _⟩, ⟨by repeat (first | (with_reducible first | exact HB.out | apply below_alloc | apply pw_below_drewN | apply below_drew1) | exact HB.out)⟩⟩
  case rest =>
    clear HC6
    try clear p2
    try clear c3
    try clear c7
    try clear c8
    try clear c8b0
    obtain ⟨kq, x7_5, rfl, HA, HJ5, HB⟩ := hcut
    cases kq with
    | zero => exact absurd HA.out (by simp [nat_Nat_Right.j0])
    | succ kj5 =>
      have H := HA.out
      clear HA
      simp only [nat_Nat_Right.j0] at H
      by_cases c10 : 0 ≤ (l0.length : Int)
      · rw [if_pos c10] at H
        have c10b0 := eq_true c10
        have c10b1 : decide (0 ≤ (l0.length : Int)) = true := decide_eq_true c10
        clear c10
        by_cases c11 : ((l0.length : Int) : Int).toNat ≤ 70368744177664
        · rw [if_pos c11] at H
          have c11b0 := eq_true c11
          have c11b1 : decide (((l0.length : Int) : Int).toNat ≤ 70368744177664) = true := decide_eq_true c11
          clear c11
          obtain ⟨y121, hy121⟩ : ∃ y_ : List Int, y_ = (List.replicate ((l0.length : Int) : Int).toNat 0) := ⟨_, rfl⟩
          replace H : (nat_Nat_Right.l0 kj5 l0 ji5 x7_5 y121 (y121.length : Int) 0) = some (r1, r2) := by first | (rw [hy121]; with_reducible exact H) | (have H2_ := (Option.bind_some _ _).symm.trans H; rw [hy121]; with_reducible exact H2_) | (have H2_ := (Option.bind_some _ _).symm.trans H; with_reducible exact H2_) | with_reducible exact H | (rw [hy121]; exact H) | exact H
          have Ny121 := Aside0.mk hy121
          clear hy121
          have H' := Aside0.mk H
          clear H
          go_wp2_with (first | ((with_reducible refine gate_dst (N := 28) rfl ?_); refine Kd.R_make (Kd.int .u32) _ 89 rfl (N := 28) rfl 34 _ _ rfl (l0.length : Int) rfl rfl Try.underlying34 (.int .u32 0) 4 info89 rfl (by decide) (by omega) 0 (ok := fun _ => True) (okp := fun _ => True) rfl (fun _ hk => hk) trivial (of_decide_eq_true (by first | (with_reducible assumption) | assumption)) (Nat.le_trans (Nat.mul_le_mul_right _ (of_decide_eq_true (by first | (with_reducible assumption) | assumption) : (l0.length : Int).toNat ≤ 70368744177664)) (by omega)) (Below.refl _ _) (Nat.le_refl _) ?_; intro v122 w12 ho13 hb hg_ hnew_; clear hg_ hnew_; (first | rw [← Ny121.out] at ho13 | (simp only [Int.reduceToNat] at ho13; rw [← Ny121.out] at ho13)); have n0_ := Aside0.mk (Kd.R_lower (Kd.R_newM (M := fun k_ => (w.heap.size ≤ k_)) ho13 (below_size (by repeat (first | (with_reducible first | exact HB.out | apply below_alloc | apply pw_below_drewN | apply below_drew1) | exact HB.out))) (fun k_ h_ => h_)) (below_size (by repeat (first | (with_reducible first | exact HB.out | apply below_alloc | apply pw_below_drewN | apply below_drew1) | exact HB.out)))); have n1_ := Aside0.mk (below_step (by repeat (first | (with_reducible first | exact HB.out | apply below_alloc | apply pw_below_drewN | apply below_drew1) | exact HB.out)) hb); clear HB; have HO123 := n0_; have HB := n1_; clear n0_ n1_; clear hb ho13; obtain ⟨Ao14, co14, eo14⟩ := Kd.R_slice HO123.out; subst eo14))
          go_loopg [31] kj5 (fun kq v31 w' => ∃ (x8_2 : List Int) (x31_2 : Int), v31 = .int .i64 x31_2 ∧ Aside0 (nat_Nat_Right.l0 kq l0 ji5 x7_5 x8_2 (y121.length : Int) x31_2 = some (r1, r2)) ∧ Aside0 (kq ≤ kj5) ∧ Aside0 (Kd.R (Kd.int .u32) 89 w' w.heap.size (fun k_ => (w.heap.size ≤ k_)) (.slice Ao14 y121.length co14) x8_2) ∧ Aside0 (Below w.heap.size w w'))
          case atStart => exact ⟨(y121), (0), (by first | rfl | (simp; done) | (simp [*]; done) | (simp; omega)), H', ⟨Nat.le_refl _⟩, ⟨by (with_reducible repeat (first | apply Kd.R_alloc | apply Kd.R_drewN | apply Kd.R_drew)); exact Kd.R_mono HO123.out (fun _ hk => hk.1)⟩, ⟨by repeat (first | (with_reducible first | exact HB.out | apply below_alloc | apply pw_below_drewN | apply below_drew1) | exact HB.out)⟩⟩
          case round =>
            clear H'
            try clear c1
            try clear p2
            try clear c3
            try clear c7
            try clear c8
            try clear c8b0
            try clear c10
            try clear c10b0
            try clear c10b1
            try clear c11
            try clear c11b0
            try clear c11b1
            try clear p2
            obtain ⟨x8_2, x31_2, rfl, HA, HK2, HO_8, HB⟩ := hrel
            have hl8_2 := (Kd.R_reads' HO_8.out).1
            rw [hl8_2] at HO_8
            (try simp only [hl8_2])
            cases gk with
            | zero => exact absurd HA.out (by simp [nat_Nat_Right.l0])
            | succ k2 =>
              have H := HA.out
              clear HA
              simp only [nat_Nat_Right.l0] at H
              by_cases c15 : x31_2 < (y121.length : Int)
              · rw [if_pos c15] at H
                have c15b0 : decide (x31_2 < (y121.length : Int)) = true := decide_eq_true c15
                (try (have c15b0zhl8_2 := c15b0; rw [hl8_2] at c15b0zhl8_2))
                clear c15
                replace H := Option.bind_eq_some_iff.mp H
                obtain ⟨t124, A160, H⟩ := H
                replace H : ((nat_Nat_part.f l0 (wrap64 (x31_2 + (wrap64 (Int.tdiv ji5 32))))).bind fun t125 => (if 0 ≤ (Int.tmod ji5 32) then (if 0 ≤ x31_2 then (if x31_2 < (x8_2.length : Int) then (nat_Nat_Right.l0 k2 l0 ji5 x7_5 (x8_2.set (x31_2 : Int).toNat ((shr .u64 (Go.bits .or .u64 (IntKind.u64.wrap ((IntKind.u64.wrap (t124)) * 4294967296)) (IntKind.u64.wrap (t125))) (Int.tmod ji5 32)) % 4294967296)) (y121.length : Int) (wrap64 (x31_2 + 1))) else (none)) else (none)) else (none))) = some (r1, r2) := H
                have A16 := Aside0.mk A160
                clear A160
                replace H := Option.bind_eq_some_iff.mp H
                obtain ⟨t125, A170, H⟩ := H
                replace H : (if 0 ≤ (Int.tmod ji5 32) then (if 0 ≤ x31_2 then (if x31_2 < (x8_2.length : Int) then (nat_Nat_Right.l0 k2 l0 ji5 x7_5 (x8_2.set (x31_2 : Int).toNat ((shr .u64 (Go.bits .or .u64 (IntKind.u64.wrap ((IntKind.u64.wrap (t124)) * 4294967296)) (IntKind.u64.wrap (t125))) (Int.tmod ji5 32)) % 4294967296)) (y121.length : Int) (wrap64 (x31_2 + 1))) else (none)) else (none)) else (none)) = some (r1, r2) := H
                have A17 := Aside0.mk A170
                clear A170
                obtain ⟨ji18, hji18⟩ : ∃ j_ : Int, (Int.tmod ji5 32) = j_ := ⟨_, rfl⟩
                replace H : (if 0 ≤ (ji18) then (if 0 ≤ x31_2 then (if x31_2 < (x8_2.length : Int) then (nat_Nat_Right.l0 k2 l0 ji5 x7_5 (x8_2.set (x31_2 : Int).toNat ((shr .u64 (Go.bits .or .u64 (IntKind.u64.wrap ((IntKind.u64.wrap (t124)) * 4294967296)) (IntKind.u64.wrap (t125))) (ji18)) % 4294967296)) (y121.length : Int) (wrap64 (x31_2 + 1))) else (none)) else (none)) else (none)) = some (r1, r2) := by first | (rw [hji18] at H; exact H) | (simp only [hji18] at H ⊢; exact H)
                (try rw [hji18] at A16)
                (try rw [hji18] at A17)
                by_cases c19 : 0 ≤ (ji18)
                · rw [if_pos c19] at H
                  have c19b0 := eq_true c19
                  have c19b1 : decide (0 ≤ (ji18)) = true := decide_eq_true c19
                  clear c19
                  obtain ⟨ji20, hji20⟩ : ∃ j_ : Int, (shr .u64 (Go.bits .or .u64 (IntKind.u64.wrap ((IntKind.u64.wrap (t124)) * 4294967296)) (IntKind.u64.wrap (t125))) (ji18)) = j_ := ⟨_, rfl⟩
                  replace H : (if 0 ≤ x31_2 then (if x31_2 < (x8_2.length : Int) then (nat_Nat_Right.l0 k2 l0 ji5 x7_5 (x8_2.set (x31_2 : Int).toNat ((ji20) % 4294967296)) (y121.length : Int) (wrap64 (x31_2 + 1))) else (none)) else (none)) = some (r1, r2) := by first | (rw [hji20] at H; exact H) | (simp only [hji20] at H ⊢; exact H)
                  (try rw [hji20] at A16)
                  (try rw [hji20] at A17)
                  have hji20_ : ((Go.bits .or .u64 (IntKind.u64.wrap ((IntKind.u64.wrap (t124)) * 4294967296)) (IntKind.u64.wrap (t125))) / 2 ^ min (ji18).toNat 64) = ji20 := hji20
                  have hji20z : (ji18) ≤ 64 → ((Go.bits .or .u64 (IntKind.u64.wrap ((IntKind.u64.wrap (t124)) * 4294967296)) (IntKind.u64.wrap (t125))) / 2 ^ (ji18).toNat) = ji20 := shr_small hji20
                  by_cases c21 : 0 ≤ x31_2
                  · rw [if_pos c21] at H
                    have c21b0 : decide (0 ≤ x31_2) = true := decide_eq_true c21
                    clear c21
                    by_cases c22 : x31_2 < (x8_2.length : Int)
                    · rw [if_pos c22] at H
                      have c22b0 : decide (x31_2 < (x8_2.length : Int)) = true := decide_eq_true c22
                      (try (have c22b0zhl8_2 := c22b0; rw [hl8_2] at c22b0zhl8_2))
                      clear c22
                      obtain ⟨y126, hy126⟩ : ∃ y_ : List Int, y_ = (x8_2.set (x31_2 : Int).toNat ((ji20) % 4294967296)) := ⟨_, rfl⟩
                      replace H : (nat_Nat_Right.l0 k2 l0 ji5 x7_5 y126 (y121.length : Int) (wrap64 (x31_2 + 1))) = some (r1, r2) := by first | (rw [hy126]; with_reducible exact H) | (have H2_ := (Option.bind_some _ _).symm.trans H; rw [hy126]; with_reducible exact H2_) | (have H2_ := (Option.bind_some _ _).symm.trans H; with_reducible exact H2_) | with_reducible exact H | (rw [hy126]; exact H) | exact H
                      have Ny126 := Aside0.mk hy126
                      clear hy126
                      have H' := Aside0.mk H
                      clear H
                      go_wp2_with (first | ((with_reducible refine gate_callee (f := 74) rfl ?_); refine goesL_ (some 41) rfl rfl Try.func74 (by kernel_rfl) rfl #[.slice A0 l0.length c0, .int .i64 (wrap64 ((wrap64 (x31_2 + (wrap64 (Int.tdiv ji5 32)))) + 1))] rfl (by (try simp only [List.map_toArray, List.map_cons, List.map_nil]); first | done | (simp only [hji5]; rfl) | rfl | (simp only [List.length_drop, List.length_take]; rfl)) ?_; (with_reducible refine (nat_Nat_part.calls _ _ l0 (wrap64 ((wrap64 (x31_2 + (wrap64 (Int.tdiv ji5 32)))) + 1)) t124 _ ?side1 ?side2 A16.out).mono ?_); (case side1 => repeat (first | exact (Kd.C_below HR0.out HB.out) | (with_reducible refine Kd.C_alloc ?_ _) | (with_reducible refine Kd.C_drewN ?_ _) | (with_reducible refine Kd.C_drew ?_))); (case side2 => exact HC0.out); rintro e w' ⟨rfl, ⟨nd, rfl⟩⟩; refine ⟨_, rfl, ?_⟩; (try (rw [drewN_self wr]; generalize hq_ : World.drewN wr _ = wr; have n0_ : Aside0 (Kd.R (Kd.int .u32) 89 wr w.heap.size (fun k_ => (w.heap.size ≤ k_)) (.slice Ao14 x8_2.length co14) x8_2) := ⟨by rw [← hq_]; exact (by (with_reducible repeat (first | apply Kd.R_alloc | apply Kd.R_drewN | apply Kd.R_drew)); exact HO_8.out)⟩; have n1_ : Aside0 (Below w.heap.size w wr) := ⟨by rw [← hq_]; exact (by repeat (first | (with_reducible first | exact HB.out | apply below_alloc | apply pw_below_drewN | apply below_drew1) | exact HB.out))⟩; clear HO_8 HB hq_; have HO_8 := n0_; have HB := n1_; clear n0_ n1_))) | ((with_reducible refine gate_callee (f := 74) rfl ?_); refine goesL_ (some 46) rfl rfl Try.func74 (by kernel_rfl) rfl #[.slice A0 l0.length c0, .int .i64 (wrap64 (x31_2 + (wrap64 (Int.tdiv ji5 32))))] rfl (by (try simp only [List.map_toArray, List.map_cons, List.map_nil]); first | done | (simp only [hji5]; rfl) | rfl | (simp only [List.length_drop, List.length_take]; rfl)) ?_; (with_reducible refine (nat_Nat_part.calls _ _ l0 (wrap64 (x31_2 + (wrap64 (Int.tdiv ji5 32)))) t125 _ ?side1 ?side2 A17.out).mono ?_); (case side1 => repeat (first | exact (Kd.C_below HR0.out HB.out) | (with_reducible refine Kd.C_alloc ?_ _) | (with_reducible refine Kd.C_drewN ?_ _) | (with_reducible refine Kd.C_drew ?_))); (case side2 => exact HC0.out); rintro e w' ⟨rfl, ⟨nd, rfl⟩⟩; refine ⟨_, rfl, ?_⟩; (try (rw [drewN_self wr]; generalize hq_ : World.drewN wr _ = wr; have n0_ : Aside0 (Kd.R (Kd.int .u32) 89 wr w.heap.size (fun k_ => (w.heap.size ≤ k_)) (.slice Ao14 x8_2.length co14) x8_2) := ⟨by rw [← hq_]; exact (by (with_reducible repeat (first | apply Kd.R_alloc | apply Kd.R_drewN | apply Kd.R_drew)); exact HO_8.out)⟩; have n1_ : Aside0 (Below w.heap.size w wr) := ⟨by rw [← hq_]; exact (by repeat (first | (with_reducible first | exact HB.out | apply below_alloc | apply pw_below_drewN | apply below_drew1) | exact HB.out))⟩; clear HO_8 HB hq_; have HO_8 := n0_; have HB := n1_; clear n0_ n1_)); have p23 : 0 ≤ (x31_2 : Int) := of_decide_eq_true (by first | (with_reducible assumption) | assumption); have q23 : (x31_2 : Int) < ((x8_2.length : Int) : Int) := of_decide_eq_true (by first | (with_reducible assumption) | assumption); obtain ⟨go23, co23, eo23, gb23, gl23, cl23, HG23⟩ := Kd.R_form HO_8.out (by omega); (first | cases eo23 | (injection eo23 with ea_ en_ ec_; (first | subst ea_ | (injection ea_ with ea_; subst ea_)); subst ec_; clear en_)); have GB23 := Aside0.mk gb23; have GG23 := Aside0.mk HG23; clear gb23 gl23 HG23; obtain ⟨hx23_0, hf23_0⟩ := Kd.R_celln 0 HO_8.out (x31_2 : Int) p23 q23; replace p23 := eq_true p23; replace q23 := eq_true q23; obtain ⟨hy24_, hz24_⟩ := Kd.R_celln 0 HO_8.out (x31_2 : Int) (of_decide_eq_true (by first | (with_reducible assumption) | assumption)) (of_decide_eq_true (by first | (with_reducible assumption) | assumption)); have HP24 := Kd.R_putg HO_8.out (x31_2 : Int) ((ji20) % 4294967296)) | ((with_reducible refine gate_store (t := 89) (p := 56) rfl ?_); refine store_event (t := 89) (p := 56) (v := ?vo_w25) (w1 := (wr.setCell ⟨go23, (x31_2 : Int).toNat, none⟩ (.int .u32 ((ji20) % 4294967296)))) ?hg ?ho ?hn ?hr ?_; (case ho => rfl); (case hg => rfl); (case hn => rfl); (case hr => first | (go_simp; done) | (go_simp; rfl)); intro w25 hw; have hg : wr.grownBy w25 (some go23) := (by rw [hw]; exact HP24.2); have hp_ : Kd.R (Kd.int .u32) 89 w25 w.heap.size (fun k_ => (w.heap.size ≤ k_)) (.slice (some ⟨go23, 0, none⟩) x8_2.length co14) y126 := (by rw [hw, Ny126.out]; exact HP24.1); clear HP24; have n0_ := Aside0.mk (hp_); have n1_ := Aside0.mk ((by rw [hw]; exact below_set (HB.out) GB23.out : Below w.heap.size w w25)); clear HO_8; clear HB; have HO_8 := n0_; have HB := n1_; clear n0_ n1_; clear hg hw hp_))
                      (try simp only [← hl8_2])
                      go_roundg k2
                      case measure => have := HJ5.out; have := HK2.out; omega
                      case rel => exact ⟨(y126), (wrap64 (x31_2 + 1)), (by first | rfl | (simp; done) | (simp [*]; done) | (simp; omega)), H', ⟨by have := HJ5.out; have := HK2.out; omega⟩, ⟨by (try simp only [hl8_2]); (with_reducible repeat (first | apply Kd.R_alloc | apply Kd.R_drewN | apply Kd.R_drew)); exact HO_8.out⟩, ⟨by repeat (first | (with_reducible first | exact HB.out | apply below_alloc | apply pw_below_drewN | apply below_drew1) | exact HB.out)⟩⟩
                    · rw [if_neg c22] at H
                      exact absurd H (by simp)
                  · rw [if_neg c21] at H
                    exact absurd H (by simp)
                · rw [if_neg c19] at H
                  exact absurd H (by simp)
              · rw [if_neg c15] at H
                have c15b0 : decide (x31_2 < (y121.length : Int)) = false := decide_eq_false c15
                (try (have c15b0zhl8_2 := c15b0; rw [hl8_2] at c15b0zhl8_2))
                clear c15
                replace H := Option.bind_eq_some_iff.mp H
                obtain ⟨t127, A260, H⟩ := H
                replace H : (some (t127, x7_5)) = some (r1, r2) := H
                have A26 := Aside0.mk A260
                clear A260
                simp only [Option.some.injEq, Prod.mk.injEq] at H
                obtain ⟨rfl, rfl⟩ := H
                go_wp2_with (first | ((with_reducible refine gate_callee (f := 76) rfl ?_); refine goesL_ (some 59) rfl rfl Try.func76 (by kernel_rfl) rfl #[.func (.func 72) #[] #[], .slice Ao14 x8_2.length co14] rfl (by (try simp only [List.map_toArray, List.map_cons, List.map_nil]); first | done | rfl | (simp only [List.length_drop, List.length_take]; rfl)) ?_; (with_reducible refine (nat_told.calls k2 (fun k_ => some k_ = (.slice Ao14 x8_2.length co14 : Value).ownBlock) _ _ x8_2 t127 _ ?side1 A26.out).mono ?_); (case side1 => exact Kd.R_V (Kd.R_tight rfl (HO_8.out))); rintro e w27 ⟨v128, rfl, ho0, hb⟩; refine ⟨_, rfl, ?_⟩; have n0_ := Aside0.mk (Kd.R_below (by (with_reducible repeat (first | apply Kd.R_alloc | apply Kd.R_drewN | apply Kd.R_drew)); exact HO_8.out) hb); have n1_ := Aside0.mk (Kd.V_lower (Kd.V_mono (ok' := fun k_ => (w.heap.size ≤ k_)) ho0 (fun k_ hk_ => Or.elim hk_ (fun hs_ => ((HO_8.out).1 k_ hs_.symm)) (fun hn_ => (Nat.le_trans (below_size (by repeat (first | (with_reducible first | exact HB.out | apply below_alloc | apply pw_below_drewN | apply below_drew1) | exact HB.out))) hn_)))) (below_size (by repeat (first | (with_reducible first | exact HB.out | apply below_alloc | apply pw_below_drewN | apply below_drew1) | exact HB.out)))); have n2_ := Aside0.mk (below_step (by repeat (first | (with_reducible first | exact HB.out | apply below_alloc | apply pw_below_drewN | apply below_drew1) | exact HB.out)) hb); clear HO_8; clear HB; have HO_8 := n0_; have HO129 := n1_; have HB := n2_; clear n0_ n1_ n2_; (try clear hb); (try clear hb2); (try clear hk); (try clear hi); (try clear ho0)))
                go_ret2
                exact ⟨_, by first | rfl | (simp [errW_none, errW_some] <;> rfl) | (simp only [← hji4, ← hji5]; first | rfl | (simp [errW_none, errW_some] <;> rfl)) | (simp [*, errW_none, errW_some] <;> rfl), by (with_reducible repeat (first | apply Kd.V_alloc | apply Kd.V_drewN | apply Kd.V_drew)); exact HO129.out, by repeat (first | (with_reducible first | exact HB.out | apply below_alloc | apply pw_below_drewN | apply below_drew1) | exact HB.out)⟩
        · rw [if_neg c11] at H
          exact absurd H (by simp)
      · rw [if_neg c10] at H
        exact absurd H (by simp)

/-! ### nat_Of: function 48 -/
def nat_Of.f (k : Nat) (a0 : Int) : Option (List Int) := (nat_Nat_trim.f k (([(a0) % 4294967296, (a0 / 4294967296) % 4294967296] : List Int))).bind fun t133 => (some t133)
theorem nat_Of.mono : ∀ a0 k, LeO (nat_Of.f k a0) (nat_Of.f (k + 1) a0) := by
  intro a0 k
  unfold nat_Of.f
  repeat' first
      | (with_reducible exact nat_Nat_trim.mono _ _)
      | (with_reducible exact LeO.refl _)
      | (with_reducible exact LeO.none _)
      | (with_reducible refine LeO.ite ?_ ?_)
      | (with_reducible refine LeO.bind ?_ (fun _ => ?_))
      | exact nat_Nat_trim.mono _ _
      | exact LeO.none _
      | refine LeO.ite ?_ ?_
      | refine LeO.bind ?_ (fun _ => ?_)
set_option maxHeartbeats 8000000 in
set_option maxRecDepth 100000 in
theorem nat_Of.calls (k : Nat) (a0 : Int) (r : List Int) (w : World) (h : nat_Of.f k a0 = some r) :
    Calls Try.prog 48 #[.int .u64 a0] w fun e w' => ∃ v0_ : Value, e = .returned (v0_) ∧ Kd.V (Kd.int .u32) 89 w' w.heap.size (fun k_ => (w.heap.size ≤ k_)) v0_ r ∧ Below w.heap.size w w' := by
  have HB := Aside0.mk (Below.refl w.heap.size w)
  have H : ((nat_Nat_trim.f k (([(a0) % 4294967296, (a0 / 4294967296) % 4294967296] : List Int))).bind fun t133 => (some t133)) = some r := h
  clear h
  obtain ⟨y130, hy130⟩ : ∃ y_ : List Int, y_ = (([(a0) % 4294967296, (a0 / 4294967296) % 4294967296] : List Int)) := ⟨_, rfl⟩
  replace H : ((nat_Nat_trim.f k y130).bind fun t133 => (some t133)) = some r := by first | (rw [hy130]; with_reducible exact H) | (have H2_ := (Option.bind_some _ _).symm.trans H; rw [hy130]; with_reducible exact H2_) | (have H2_ := (Option.bind_some _ _).symm.trans H; with_reducible exact H2_) | with_reducible exact H | (rw [hy130]; exact H) | exact H
  have Ny130 := Aside0.mk hy130
  clear hy130
  replace H := Option.bind_eq_some_iff.mp H
  obtain ⟨t133, A20, H⟩ := H
  replace H : (some t133) = some r := H
  have A2 := Aside0.mk A20
  clear A20
  obtain rfl := Option.some.inj H
  go_enter Try.func48, Try.ntmps48
  go_wp2_with (first | ((with_reducible refine gate_dst (N := 8) rfl ?_); refine Kd.R_lit (Kd.int .u32) _ 89 ?hg (N := 8) ?hd (xs := ([(a0) % 4294967296, (a0 / 4294967296) % 4294967296] : List Int)) (inner := [.int .u32 ((a0) % 4294967296), .int .u32 ((a0 / 4294967296) % 4294967296)]) (ok := fun _ => True) (okp := fun _ => True) ?hr ?hp (fun _ hk => hk) trivial (Below.refl _ _) (Nat.le_refl _) (by simp) ?_; (case hd => rfl); (case hg => rfl); (case hr => first | (go_simp; done) | (go_simp; rfl)); (case hp => exact (Reps.one (show Kd.M (Kd.int .u32) _ _ _ ((a0) % 4294967296) [.int .u32 ((a0) % 4294967296)] from rfl) (Reps.one (show Kd.M (Kd.int .u32) _ _ _ ((a0 / 4294967296) % 4294967296) [.int .u32 ((a0 / 4294967296) % 4294967296)] from rfl) (Reps.none _ _)))); intro v131 w3 ho4 hb hg_ hnew_; clear hg_ hnew_; (first | rw [← Ny130.out] at ho4 | (simp only [Int.reduceToNat] at ho4; rw [← Ny130.out] at ho4)); have n0_ := Aside0.mk (Kd.R_lower (Kd.R_newM (M := fun k_ => (w.heap.size ≤ k_)) ho4 (below_size (by repeat (first | (with_reducible first | exact HB.out | apply below_alloc | apply pw_below_drewN | apply below_drew1) | exact HB.out))) (fun k_ h_ => h_)) (below_size (by repeat (first | (with_reducible first | exact HB.out | apply below_alloc | apply pw_below_drewN | apply below_drew1) | exact HB.out)))); have n1_ := Aside0.mk (below_step (by repeat (first | (with_reducible first | exact HB.out | apply below_alloc | apply pw_below_drewN | apply below_drew1) | exact HB.out)) hb); clear HB; have HO132 := n0_; have HB := n1_; clear n0_ n1_; clear hb ho4; obtain ⟨Ao5, co5, eo5⟩ := Kd.R_slice HO132.out; subst eo5) | ((with_reducible refine gate_callee (f := 72) rfl ?_); refine goesL_ (some 9) rfl rfl Try.func72 (by kernel_rfl) rfl #[.slice Ao5 y130.length co5] rfl (by (try simp only [List.map_toArray, List.map_cons, List.map_nil]); first | done | rfl | (simp only [List.length_drop, List.length_take]; rfl)) ?_; (with_reducible refine (nat_Nat_trim.calls k (fun k_ => some k_ = (.slice Ao5 y130.length co5 : Value).ownBlock) _ _ y130 t133 _ ?side1 A2.out).mono ?_); (case side1 => exact Kd.R_V (Kd.R_tight rfl (HO132.out))); rintro e w6 ⟨v134, rfl, ho0, hb⟩; refine ⟨_, rfl, ?_⟩; have n0_ := Aside0.mk (Kd.R_below (by (with_reducible repeat (first | apply Kd.R_alloc | apply Kd.R_drewN | apply Kd.R_drew)); exact HO132.out) hb); have n1_ := Aside0.mk (Kd.V_lower (Kd.V_mono (ok' := fun k_ => (w.heap.size ≤ k_)) ho0 (fun k_ hk_ => Or.elim hk_ (fun hs_ => ((HO132.out).1 k_ hs_.symm).1) (fun hn_ => (Nat.le_trans (below_size (by repeat (first | (with_reducible first | exact HB.out | apply below_alloc | apply pw_below_drewN | apply below_drew1) | exact HB.out))) hn_)))) (below_size (by repeat (first | (with_reducible first | exact HB.out | apply below_alloc | apply pw_below_drewN | apply below_drew1) | exact HB.out)))); have n2_ := Aside0.mk (below_step (by repeat (first | (with_reducible first | exact HB.out | apply below_alloc | apply pw_below_drewN | apply below_drew1) | exact HB.out)) hb); clear HO132; clear HB; have HO132 := n0_; have HO135 := n1_; have HB := n2_; clear n0_ n1_ n2_; (try clear hb); (try clear hb2); (try clear hk); (try clear hi); (try clear ho0)))
  go_ret
  exact ⟨_, by first | rfl | (simp [errW_none, errW_some] <;> rfl) | (simp [*, errW_none, errW_some] <;> rfl), by (with_reducible repeat (first | apply Kd.V_alloc | apply Kd.V_drewN | apply Kd.V_drew)); exact HO135.out, by repeat (first | (with_reducible first | exact HB.out | apply below_alloc | apply pw_below_drewN | apply below_drew1) | exact HB.out)⟩

/-! ### nat_Nat_Left: function 66 -/
mutual
def nat_Nat_Left.j0 : Nat → List Int → Int → Int → Bool → Option (List Int × Int)
  | 0, _, _, _, _ => none
  | k + 1, x0, x1, x6, x16 => if x16 = true then (some (([] : List Int), 6)) else (if x6 = 0 then (some (([] : List Int), 0)) else (if 0 ≤ (wrap64 ((wrap64 (Int.tdiv (wrap64 (x6 + x1)) 32)) + 1)) then (if (wrap64 ((wrap64 (Int.tdiv (wrap64 (x6 + x1)) 32)) + 1) : Int).toNat ≤ 70368744177664 then ((some (List.replicate (wrap64 ((wrap64 (Int.tdiv (wrap64 (x6 + x1)) 32)) + 1) : Int).toNat 0 : List Int)).bind fun y137 => (nat_Nat_Left.l0 k x0 x1 y137 (y137.length : Int) 0)) else (none)) else (none)))
def nat_Nat_Left.l0 : Nat → List Int → Int → List Int → Int → Int → Option (List Int × Int)
  | 0, _, _, _, _, _ => none
  | k + 1, x0, x1, x7, x39, x40 => if x40 < x39 then ((nat_Nat_part.f x0 (wrap64 (x40 - (wrap64 (Int.tdiv x1 32))))).bind fun t140 => ((nat_Nat_part.f x0 (wrap64 ((wrap64 (x40 - (wrap64 (Int.tdiv x1 32)))) - 1))).bind fun t141 => (if 0 ≤ (Int.tmod x1 32) then (if 0 ≤ x40 then (if x40 < (x7.length : Int) then (nat_Nat_Left.l0 k x0 x1 (x7.set (x40 : Int).toNat (((shl .u64 (Go.bits .or .u64 (IntKind.u64.wrap ((IntKind.u64.wrap (t140)) * 4294967296)) (IntKind.u64.wrap (t141))) (Int.tmod x1 32)) / 4294967296) % 4294967296)) x39 (wrap64 (x40 + 1))) else (none)) else (none)) else (none)))) else ((nat_told.f k x7).bind fun t143 => (some (t143, 0)))
end
def nat_Nat_Left.f (k : Nat) (l0 : List Int) (a1 : Int) : Option (List Int × Int) := (nat_Nat_Len.f k l0).bind fun t136 => (if a1 < 0 then (some (([] : List Int), 1)) else (if t136 > 0 then (if t136 > 16384 then (nat_Nat_Left.j0 k l0 a1 t136 true) else (nat_Nat_Left.j0 k l0 a1 t136 (decide (a1 > (wrap64 (16384 - t136)))))) else (nat_Nat_Left.j0 k l0 a1 t136 false)))
theorem nat_Nat_Left.mono_l : ∀ k, (∀ y0 y1 y2 y3, LeO (nat_Nat_Left.j0 k y0 y1 y2 y3) (nat_Nat_Left.j0 (k + 1) y0 y1 y2 y3)) ∧ (∀ y0 y1 y2 y3 y4, LeO (nat_Nat_Left.l0 k y0 y1 y2 y3 y4) (nat_Nat_Left.l0 (k + 1) y0 y1 y2 y3 y4))
  | 0 => ⟨fun _ _ _ _ r h => by simp [nat_Nat_Left.j0] at h, fun _ _ _ _ _ r h => by simp [nat_Nat_Left.l0] at h⟩
  | k + 1 => by
    obtain ⟨ih0, ih1⟩ := nat_Nat_Left.mono_l k
    refine ⟨?_, ?_⟩
    · intro y0 y1 y2 y3
      unfold nat_Nat_Left.j0
      repeat' first
      | (with_reducible exact ih0 _ _ _ _)
      | (with_reducible exact ih1 _ _ _ _ _)
      | (with_reducible exact nat_Nat_Len.mono _ _)
      | (with_reducible exact nat_told.mono _ _)
      | (with_reducible exact LeO.refl _)
      | (with_reducible exact LeO.none _)
      | (with_reducible refine LeO.ite ?_ ?_)
      | (with_reducible refine LeO.bind ?_ (fun _ => ?_))
      | exact ih0 _ _ _ _
      | exact ih1 _ _ _ _ _
      | exact nat_Nat_Len.mono _ _
      | exact nat_told.mono _ _
      | exact LeO.none _
      | refine LeO.ite ?_ ?_
      | refine LeO.bind ?_ (fun _ => ?_)
    · intro y0 y1 y2 y3 y4
      unfold nat_Nat_Left.l0
      repeat' first
      | (with_reducible exact ih0 _ _ _ _)
      | (with_reducible exact ih1 _ _ _ _ _)
      | (with_reducible exact nat_Nat_Len.mono _ _)
      | (with_reducible exact nat_told.mono _ _)
      | (with_reducible exact LeO.refl _)
      | (with_reducible exact LeO.none _)
      | (with_reducible refine LeO.ite ?_ ?_)
      | (with_reducible refine LeO.bind ?_ (fun _ => ?_))
      | exact ih0 _ _ _ _
      | exact ih1 _ _ _ _ _
      | exact nat_Nat_Len.mono _ _
      | exact nat_told.mono _ _
      | exact LeO.none _
      | refine LeO.ite ?_ ?_
      | refine LeO.bind ?_ (fun _ => ?_)
theorem nat_Nat_Left.mono : ∀ a0 a1 k, LeO (nat_Nat_Left.f k a0 a1) (nat_Nat_Left.f (k + 1) a0 a1) := by
  intro a0 a1 k
  obtain ⟨ih0, ih1⟩ := nat_Nat_Left.mono_l k
  unfold nat_Nat_Left.f
  repeat' first
      | (with_reducible exact ih0 _ _ _ _)
      | (with_reducible exact ih1 _ _ _ _ _)
      | (with_reducible exact nat_Nat_Len.mono _ _)
      | (with_reducible exact nat_told.mono _ _)
      | (with_reducible exact LeO.refl _)
      | (with_reducible exact LeO.none _)
      | (with_reducible refine LeO.ite ?_ ?_)
      | (with_reducible refine LeO.bind ?_ (fun _ => ?_))
      | exact ih0 _ _ _ _
      | exact ih1 _ _ _ _ _
      | exact nat_Nat_Len.mono _ _
      | exact nat_told.mono _ _
      | exact LeO.none _
      | refine LeO.ite ?_ ?_
      | refine LeO.bind ?_ (fun _ => ?_)
set_option maxHeartbeats 8000000 in
set_option maxRecDepth 100000 in
theorem nat_Nat_Left.calls (k : Nat) (A0 : Option Addr) (c0 : Nat) (l0 : List Int) (a1 : Int) (r1 : List Int) (r2 : Int) (w : World) (hr0 : Kd.C (Kd.int .u32) w A0 l0.length l0) (hc0 : l0.length ≤ c0) (h : nat_Nat_Left.f k l0 a1 = some (r1, r2)) :
    Calls Try.prog 66 #[.slice A0 l0.length c0, .int .i64 a1] w fun e w' => ∃ v0_ : Value, e = .returned (.tuple #[v0_, .int .i64 r2]) ∧ Kd.V (Kd.int .u32) 89 w' w.heap.size (fun k_ => (w.heap.size ≤ k_)) v0_ r1 ∧ Below w.heap.size w w' := by
  have HR0 := Aside0.mk hr0
  have HC0 := Aside0.mk hc0
  clear hr0 hc0
  have HB := Aside0.mk (Below.refl w.heap.size w)
  have H : ((nat_Nat_Len.f k l0).bind fun t136 => (if a1 < 0 then (some (([] : List Int), 1)) else (if t136 > 0 then (if t136 > 16384 then (nat_Nat_Left.j0 k l0 a1 t136 true) else (nat_Nat_Left.j0 k l0 a1 t136 (decide (a1 > (wrap64 (16384 - t136)))))) else (nat_Nat_Left.j0 k l0 a1 t136 false)))) = some (r1, r2) := h
  clear h
  replace H := Option.bind_eq_some_iff.mp H
  obtain ⟨t136, A30, H⟩ := H
  replace H : (if a1 < 0 then (some (([] : List Int), 1)) else (if t136 > 0 then (if t136 > 16384 then (nat_Nat_Left.j0 k l0 a1 t136 true) else (nat_Nat_Left.j0 k l0 a1 t136 (decide (a1 > (wrap64 (16384 - t136)))))) else (nat_Nat_Left.j0 k l0 a1 t136 false))) = some (r1, r2) := H
  have A3 := Aside0.mk A30
  clear A30
  by_cases c4 : a1 < 0
  · rw [if_pos c4] at H
    have c4b0 : decide (a1 < 0) = true := decide_eq_true c4
    clear c4
    simp only [Option.some.injEq, Prod.mk.injEq] at H
    obtain ⟨rfl, rfl⟩ := H
    go_enter Try.func66, Try.ntmps66
    go_wp2_with (first | ((with_reducible refine gate_callee (f := 38) rfl ?_); refine goesL_ (some 12) rfl rfl Try.func38 (by kernel_rfl) rfl #[.slice A0 l0.length c0] rfl (by (try simp only [List.map_toArray, List.map_cons, List.map_nil]); first | done | rfl | (simp only [List.length_drop, List.length_take]; rfl)) ?_; (with_reducible refine (nat_Nat_Len.calls k _ _ l0 t136 _ ?side1 ?side2 A3.out).mono ?_); (case side1 => repeat (first | exact HR0.out | (with_reducible refine Kd.C_alloc ?_ _) | (with_reducible refine Kd.C_drewN ?_ _) | (with_reducible refine Kd.C_drew ?_))); (case side2 => exact HC0.out); rintro e w5 ⟨rfl, hb⟩; refine ⟨_, rfl, ?_⟩; have n0_ := Aside0.mk (below_step (by repeat (first | (with_reducible first | exact HB.out | apply below_alloc | apply pw_below_drewN | apply below_drew1) | exact HB.out)) hb); clear HB; have HB := n0_; clear n0_; (try clear hb); (try clear hb2); (try clear hk); (try clear hi)))
    go_ret2
    exact ⟨_, by first | rfl | (simp [errW_none, errW_some] <;> rfl) | (simp [*, errW_none, errW_some] <;> rfl), Kd.V_nil _ _ _ _ _, by repeat (first | (with_reducible first | exact HB.out | apply below_alloc | apply pw_below_drewN | apply below_drew1) | exact HB.out)⟩
  · rw [if_neg c4] at H
    have c4b0 : decide (a1 < 0) = false := decide_eq_false c4
    clear c4
    have HC6 := Aside0.mk H
    clear H
    go_enter Try.func66, Try.ntmps66
    go_upto_region 4 with (first | ((with_reducible refine gate_callee (f := 38) rfl ?_); refine goesL_ (some 12) rfl rfl Try.func38 (by kernel_rfl) rfl #[.slice A0 l0.length c0] rfl (by (try simp only [List.map_toArray, List.map_cons, List.map_nil]); first | done | rfl | (simp only [List.length_drop, List.length_take]; rfl)) ?_; (with_reducible refine (nat_Nat_Len.calls k _ _ l0 t136 _ ?side1 ?side2 A3.out).mono ?_); (case side1 => repeat (first | exact HR0.out | (with_reducible refine Kd.C_alloc ?_ _) | (with_reducible refine Kd.C_drewN ?_ _) | (with_reducible refine Kd.C_drew ?_))); (case side2 => exact HC0.out); rintro e w7 ⟨rfl, hb⟩; refine ⟨_, rfl, ?_⟩; have n0_ := Aside0.mk (below_step (by repeat (first | (with_reducible first | exact HB.out | apply below_alloc | apply pw_below_drewN | apply below_drew1) | exact HB.out)) hb); clear HB; have HB := n0_; clear n0_; (try clear hb); (try clear hb2); (try clear hk); (try clear hi)))
    (try simp only [Act.put, List.setIfInBounds_toArray, List.set_cons_zero, List.set_cons_succ])
    go_cut [16] (fun v16 wc => ∃ (kq : Nat) (x16_5 : Bool), v16 = .bool x16_5 ∧ Aside0 (nat_Nat_Left.j0 kq l0 a1 t136 x16_5 = some (r1, r2)) ∧ Aside0 (kq ≤ k) ∧ Aside0 (Below w.heap.size w wc))
    case first =>
      have H := HC6.out
      clear HC6
      by_cases c8 : t136 > 0
      · rw [if_pos c8] at H
        have c8b0 : decide (0 < t136) = true := decide_eq_true c8
        clear c8
        (first | rw [c8b0] | (simp only [i64_w, i32_w]; rw [c8b0]) | skip)
        by_cases c9 : t136 > 16384
        · rw [if_pos c9] at H
          have c9b0 : decide (16384 < t136) = true := decide_eq_true c9
          clear c9
          have H' := Aside0.mk H
          clear H
          go_wp2
          go_meet
          case rel => exact ⟨_, (true), (by first | rfl | (simp; done) | (simp [*]; done) | (simp; omega)), H', ⟨by first | omega | exact Nat.le_refl _⟩, ⟨by repeat (first | (with_reducible first | exact HB.out | apply below_alloc | apply pw_below_drewN | apply below_drew1) | exact HB.out)⟩⟩
        · rw [if_neg c9] at H
          have c9b0 : decide (16384 < t136) = false := decide_eq_false c9
          clear c9
          have H' := Aside0.mk H
          clear H
          go_wp2
          go_meet
          case rel => exact ⟨_, (decide (a1 > (wrap64 (16384 - t136)))), (by first | rfl | (simp; done) | (simp [*]; done) | (simp; omega)), H', ⟨by first | omega | exact Nat.le_refl _⟩, ⟨by repeat (first | (with_reducible first | exact HB.out | apply below_alloc | apply pw_below_drewN | apply below_drew1) | exact HB.out)⟩⟩
      · rw [if_neg c8] at H
        have c8b0 : decide (0 < t136) = false := decide_eq_false c8
        clear c8
        (first | rw [c8b0] | (simp only [i64_w, i32_w]; rw [c8b0]) | skip)
        have H' := Aside0.mk H
        clear H
        go_wp2
        go_meet
        case rel => exact ⟨_, (false), (by first | rfl | (simp; done) | (simp [*]; done) | (simp; omega)), H', ⟨by first | omega | exact Nat.le_refl _⟩, ⟨by repeat (first | (with_reducible first | exact HB.out | apply below_alloc | apply pw_below_drewN | apply below_drew1) | exact HB.out)⟩⟩
    case rest =>
      clear HC6
      try clear p2
      try clear c3
      try clear c4
      try clear c4b0
      try clear c6
      try clear p6
      try clear c8
      try clear c8b0
      try clear c9
      try clear c9b0
      obtain ⟨kq, x16_5, rfl, HA, HJ5, HB⟩ := hcut
      cases kq with
      | zero => exact absurd HA.out (by simp [nat_Nat_Left.j0])
      | succ kj5 =>
        have H := HA.out
        clear HA
        simp only [nat_Nat_Left.j0] at H
        by_cases c10 : x16_5 = true
        · subst c10
          have H1 : (some (([] : List Int), 6)) = some (r1, r2) := by rw [if_pos rfl] at H; exact H
          clear H
          have H := H1
          clear H1
          simp only [Option.some.injEq, Prod.mk.injEq] at H
          obtain ⟨rfl, rfl⟩ := H
          go_wp2
          go_ret2
          exact ⟨_, by first | rfl | (simp [errW_none, errW_some] <;> rfl) | (simp [*, errW_none, errW_some] <;> rfl), Kd.V_nil _ _ _ _ _, by repeat (first | (with_reducible first | exact HB.out | apply below_alloc | apply pw_below_drewN | apply below_drew1) | exact HB.out)⟩
        · replace c10 := Bool.eq_false_iff.mpr c10
          subst c10
          have H1 : (if t136 = 0 then (some (([] : List Int), 0)) else (if 0 ≤ (wrap64 ((wrap64 (Int.tdiv (wrap64 (t136 + a1)) 32)) + 1)) then (if (wrap64 ((wrap64 (Int.tdiv (wrap64 (t136 + a1)) 32)) + 1) : Int).toNat ≤ 70368744177664 then ((some (List.replicate (wrap64 ((wrap64 (Int.tdiv (wrap64 (t136 + a1)) 32)) + 1) : Int).toNat 0 : List Int)).bind fun y137 => (nat_Nat_Left.l0 kj5 l0 a1 y137 (y137.length : Int) 0)) else (none)) else (none))) = some (r1, r2) := by rw [if_neg (show ¬ (false = true) by decide)] at H; exact H
          clear H
          have H := H1
          clear H1
          by_cases c11 : t136 = 0
          · rw [if_pos c11] at H
            have c11b0 : (t136 == 0) = true := beq_iff_eq.mpr c11
            have c11b1 : (t136 != 0) = false := bne_eq_false_iff_eq.mpr c11
            clear c11
            simp only [Option.some.injEq, Prod.mk.injEq] at H
            obtain ⟨rfl, rfl⟩ := H
            go_wp2
            go_ret2
            exact ⟨_, by first | rfl | (simp [errW_none, errW_some] <;> rfl) | (simp [*, errW_none, errW_some] <;> rfl), Kd.V_nil _ _ _ _ _, by repeat (first | (with_reducible first | exact HB.out | apply below_alloc | apply pw_below_drewN | apply below_drew1) | exact HB.out)⟩
          · rw [if_neg c11] at H
            have c11b0 : (t136 == 0) = false := beq_eq_false_iff_ne.mpr c11
            have c11b1 : (t136 != 0) = true := bne_iff_ne.mpr c11
            obtain ⟨ji12, hji12⟩ : ∃ j_ : Int, (wrap64 ((wrap64 (Int.tdiv (wrap64 (t136 + a1)) 32)) + 1)) = j_ := ⟨_, rfl⟩
            replace H : (if 0 ≤ (ji12) then (if (ji12 : Int).toNat ≤ 70368744177664 then ((some (List.replicate (ji12 : Int).toNat 0 : List Int)).bind fun y137 => (nat_Nat_Left.l0 kj5 l0 a1 y137 (y137.length : Int) 0)) else (none)) else (none)) = some (r1, r2) := by first | (rw [hji12] at H; exact H) | (simp only [hji12] at H ⊢; exact H)
            have hji12w : (IntKind.i64.wrap ((wrap64 (Int.tdiv (wrap64 (t136 + a1)) 32)) + 1)) = ji12 := (i64_w _).trans hji12
            by_cases c13 : 0 ≤ (ji12)
            · rw [if_pos c13] at H
              have c13b0 := eq_true c13
              have c13b1 : decide (0 ≤ (ji12)) = true := decide_eq_true c13
              clear c13
              by_cases c14 : (ji12 : Int).toNat ≤ 70368744177664
              · rw [if_pos c14] at H
                have c14b0 := eq_true c14
                have c14b1 : decide ((ji12 : Int).toNat ≤ 70368744177664) = true := decide_eq_true c14
                clear c14
                obtain ⟨y137, hy137⟩ : ∃ y_ : List Int, y_ = (List.replicate (ji12 : Int).toNat 0) := ⟨_, rfl⟩
                replace H : (nat_Nat_Left.l0 kj5 l0 a1 y137 (y137.length : Int) 0) = some (r1, r2) := by first | (rw [hy137]; with_reducible exact H) | (have H2_ := (Option.bind_some _ _).symm.trans H; rw [hy137]; with_reducible exact H2_) | (have H2_ := (Option.bind_some _ _).symm.trans H; with_reducible exact H2_) | with_reducible exact H | (rw [hy137]; exact H) | exact H
                have Ny137 := Aside0.mk hy137
                clear hy137
                have H' := Aside0.mk H
                clear H
                go_wp2_with (first | ((with_reducible refine gate_dst (N := 37) rfl ?_); refine Kd.R_make (Kd.int .u32) _ 89 rfl (N := 37) rfl 34 _ _ rfl ji12 rfl rfl Try.underlying34 (.int .u32 0) 4 info89 rfl (by decide) (by omega) 0 (ok := fun _ => True) (okp := fun _ => True) rfl (fun _ hk => hk) trivial (of_decide_eq_true (by first | (with_reducible assumption) | assumption)) (Nat.le_trans (Nat.mul_le_mul_right _ (of_decide_eq_true (by first | (with_reducible assumption) | assumption) : ji12.toNat ≤ 70368744177664)) (by omega)) (Below.refl _ _) (Nat.le_refl _) ?_; intro v138 w15 ho16 hb hg_ hnew_; clear hg_ hnew_; (first | rw [← Ny137.out] at ho16 | (simp only [Int.reduceToNat] at ho16; rw [← Ny137.out] at ho16)); have n0_ := Aside0.mk (Kd.R_lower (Kd.R_newM (M := fun k_ => (w.heap.size ≤ k_)) ho16 (below_size (by repeat (first | (with_reducible first | exact HB.out | apply below_alloc | apply pw_below_drewN | apply below_drew1) | exact HB.out))) (fun k_ h_ => h_)) (below_size (by repeat (first | (with_reducible first | exact HB.out | apply below_alloc | apply pw_below_drewN | apply below_drew1) | exact HB.out)))); have n1_ := Aside0.mk (below_step (by repeat (first | (with_reducible first | exact HB.out | apply below_alloc | apply pw_below_drewN | apply below_drew1) | exact HB.out)) hb); clear HB; have HO139 := n0_; have HB := n1_; clear n0_ n1_; clear hb ho16; obtain ⟨Ao17, co17, eo17⟩ := Kd.R_slice HO139.out; subst eo17))
                go_loopg [40] kj5 (fun kq v40 w' => ∃ (x7_2 : List Int) (x40_2 : Int), v40 = .int .i64 x40_2 ∧ Aside0 (nat_Nat_Left.l0 kq l0 a1 x7_2 (y137.length : Int) x40_2 = some (r1, r2)) ∧ Aside0 (kq ≤ kj5) ∧ Aside0 (Kd.R (Kd.int .u32) 89 w' w.heap.size (fun k_ => (w.heap.size ≤ k_)) (.slice Ao17 y137.length co17) x7_2) ∧ Aside0 (Below w.heap.size w w'))
                case atStart => exact ⟨(y137), (0), (by first | rfl | (simp; done) | (simp [*]; done) | (simp; omega)), H', ⟨Nat.le_refl _⟩, ⟨by (with_reducible repeat (first | apply Kd.R_alloc | apply Kd.R_drewN | apply Kd.R_drew)); exact Kd.R_mono HO139.out (fun _ hk => hk.1)⟩, ⟨by repeat (first | (with_reducible first | exact HB.out | apply below_alloc | apply pw_below_drewN | apply below_drew1) | exact HB.out)⟩⟩
                case round =>
                  clear H'
                  try clear c1
                  try clear p2
                  try clear c3
                  try clear c4
                  try clear c4b0
                  try clear c6
                  try clear p6
                  try clear c8
                  try clear c8b0
                  try clear c9
                  try clear c9b0
                  try clear c10
                  try clear c11
                  try clear c11b0
                  try clear c11b1
                  try clear c13
                  try clear c13b0
                  try clear c13b1
                  try clear c14
                  try clear c14b0
                  try clear c14b1
                  try clear p2
                  try clear p6
                  obtain ⟨x7_2, x40_2, rfl, HA, HK2, HO_7, HB⟩ := hrel
                  have hl7_2 := (Kd.R_reads' HO_7.out).1
                  rw [hl7_2] at HO_7
                  (try simp only [hl7_2])
                  cases gk with
                  | zero => exact absurd HA.out (by simp [nat_Nat_Left.l0])
                  | succ k2 =>
                    have H := HA.out
                    clear HA
                    simp only [nat_Nat_Left.l0] at H
                    by_cases c18 : x40_2 < (y137.length : Int)
                    · rw [if_pos c18] at H
                      have c18b0 : decide (x40_2 < (y137.length : Int)) = true := decide_eq_true c18
                      (try (have c18b0zhl7_2 := c18b0; rw [hl7_2] at c18b0zhl7_2))
                      clear c18
                      replace H := Option.bind_eq_some_iff.mp H
                      obtain ⟨t140, A190, H⟩ := H
                      replace H : ((nat_Nat_part.f l0 (wrap64 ((wrap64 (x40_2 - (wrap64 (Int.tdiv a1 32)))) - 1))).bind fun t141 => (if 0 ≤ (Int.tmod a1 32) then (if 0 ≤ x40_2 then (if x40_2 < (x7_2.length : Int) then (nat_Nat_Left.l0 k2 l0 a1 (x7_2.set (x40_2 : Int).toNat (((shl .u64 (Go.bits .or .u64 (IntKind.u64.wrap ((IntKind.u64.wrap (t140)) * 4294967296)) (IntKind.u64.wrap (t141))) (Int.tmod a1 32)) / 4294967296) % 4294967296)) (y137.length : Int) (wrap64 (x40_2 + 1))) else (none)) else (none)) else (none))) = some (r1, r2) := H
                      have A19 := Aside0.mk A190
                      clear A190
                      replace H := Option.bind_eq_some_iff.mp H
                      obtain ⟨t141, A200, H⟩ := H
                      replace H : (if 0 ≤ (Int.tmod a1 32) then (if 0 ≤ x40_2 then (if x40_2 < (x7_2.length : Int) then (nat_Nat_Left.l0 k2 l0 a1 (x7_2.set (x40_2 : Int).toNat (((shl .u64 (Go.bits .or .u64 (IntKind.u64.wrap ((IntKind.u64.wrap (t140)) * 4294967296)) (IntKind.u64.wrap (t141))) (Int.tmod a1 32)) / 4294967296) % 4294967296)) (y137.length : Int) (wrap64 (x40_2 + 1))) else (none)) else (none)) else (none)) = some (r1, r2) := H
                      have A20 := Aside0.mk A200
                      clear A200
                      obtain ⟨ji21, hji21⟩ : ∃ j_ : Int, (Int.tmod a1 32) = j_ := ⟨_, rfl⟩
                      replace H : (if 0 ≤ (ji21) then (if 0 ≤ x40_2 then (if x40_2 < (x7_2.length : Int) then (nat_Nat_Left.l0 k2 l0 a1 (x7_2.set (x40_2 : Int).toNat (((shl .u64 (Go.bits .or .u64 (IntKind.u64.wrap ((IntKind.u64.wrap (t140)) * 4294967296)) (IntKind.u64.wrap (t141))) (ji21)) / 4294967296) % 4294967296)) (y137.length : Int) (wrap64 (x40_2 + 1))) else (none)) else (none)) else (none)) = some (r1, r2) := by first | (rw [hji21] at H; exact H) | (simp only [hji21] at H ⊢; exact H)
                      (try rw [hji21] at A19)
                      (try rw [hji21] at A20)
                      by_cases c22 : 0 ≤ (ji21)
                      · rw [if_pos c22] at H
                        have c22b0 := eq_true c22
                        have c22b1 : decide (0 ≤ (ji21)) = true := decide_eq_true c22
                        clear c22
                        obtain ⟨ji23, hji23⟩ : ∃ j_ : Int, (shl .u64 (Go.bits .or .u64 (IntKind.u64.wrap ((IntKind.u64.wrap (t140)) * 4294967296)) (IntKind.u64.wrap (t141))) (ji21)) = j_ := ⟨_, rfl⟩
                        replace H : (if 0 ≤ x40_2 then (if x40_2 < (x7_2.length : Int) then (nat_Nat_Left.l0 k2 l0 a1 (x7_2.set (x40_2 : Int).toNat (((ji23) / 4294967296) % 4294967296)) (y137.length : Int) (wrap64 (x40_2 + 1))) else (none)) else (none)) = some (r1, r2) := by first | (rw [hji23] at H; exact H) | (simp only [hji23] at H ⊢; exact H)
                        (try rw [hji23] at A19)
                        (try rw [hji23] at A20)
                        have hji23_ : (IntKind.u64.wrap ((Go.bits .or .u64 (IntKind.u64.wrap ((IntKind.u64.wrap (t140)) * 4294967296)) (IntKind.u64.wrap (t141))) * 2 ^ min (ji21).toNat 64)) = ji23 := hji23
                        have hji23z : (ji21) ≤ 64 → (IntKind.u64.wrap ((Go.bits .or .u64 (IntKind.u64.wrap ((IntKind.u64.wrap (t140)) * 4294967296)) (IntKind.u64.wrap (t141))) * 2 ^ (ji21).toNat)) = ji23 := shl_small hji23
                        by_cases c24 : 0 ≤ x40_2
                        · rw [if_pos c24] at H
                          have c24b0 : decide (0 ≤ x40_2) = true := decide_eq_true c24
                          clear c24
                          by_cases c25 : x40_2 < (x7_2.length : Int)
                          · rw [if_pos c25] at H
                            have c25b0 : decide (x40_2 < (x7_2.length : Int)) = true := decide_eq_true c25
                            (try (have c25b0zhl7_2 := c25b0; rw [hl7_2] at c25b0zhl7_2))
                            clear c25
                            obtain ⟨y142, hy142⟩ : ∃ y_ : List Int, y_ = (x7_2.set (x40_2 : Int).toNat (((ji23) / 4294967296) % 4294967296)) := ⟨_, rfl⟩
                            replace H : (nat_Nat_Left.l0 k2 l0 a1 y142 (y137.length : Int) (wrap64 (x40_2 + 1))) = some (r1, r2) := by first | (rw [hy142]; with_reducible exact H) | (have H2_ := (Option.bind_some _ _).symm.trans H; rw [hy142]; with_reducible exact H2_) | (have H2_ := (Option.bind_some _ _).symm.trans H; with_reducible exact H2_) | with_reducible exact H | (rw [hy142]; exact H) | exact H
                            have Ny142 := Aside0.mk hy142
                            clear hy142
                            have H' := Aside0.mk H
                            clear H
                            go_wp2_with (first | ((with_reducible refine gate_callee (f := 74) rfl ?_); refine goesL_ (some 49) rfl rfl Try.func74 (by kernel_rfl) rfl #[.slice A0 l0.length c0, .int .i64 (wrap64 (x40_2 - (wrap64 (Int.tdiv a1 32))))] rfl (by (try simp only [List.map_toArray, List.map_cons, List.map_nil]); first | done | rfl | (simp only [List.length_drop, List.length_take]; rfl)) ?_; (with_reducible refine (nat_Nat_part.calls _ _ l0 (wrap64 (x40_2 - (wrap64 (Int.tdiv a1 32)))) t140 _ ?side1 ?side2 A19.out).mono ?_); (case side1 => repeat (first | exact (Kd.C_below HR0.out HB.out) | (with_reducible refine Kd.C_alloc ?_ _) | (with_reducible refine Kd.C_drewN ?_ _) | (with_reducible refine Kd.C_drew ?_))); (case side2 => exact HC0.out); rintro e w' ⟨rfl, ⟨nd, rfl⟩⟩; refine ⟨_, rfl, ?_⟩; (try (rw [drewN_self wr]; generalize hq_ : World.drewN wr _ = wr; have n0_ : Aside0 (Kd.R (Kd.int .u32) 89 wr w.heap.size (fun k_ => (w.heap.size ≤ k_)) (.slice Ao17 x7_2.length co17) x7_2) := ⟨by rw [← hq_]; exact (by (with_reducible repeat (first | apply Kd.R_alloc | apply Kd.R_drewN | apply Kd.R_drew)); exact HO_7.out)⟩; have n1_ : Aside0 (Below w.heap.size w wr) := ⟨by rw [← hq_]; exact (by repeat (first | (with_reducible first | exact HB.out | apply below_alloc | apply pw_below_drewN | apply below_drew1) | exact HB.out))⟩; clear HO_7 HB hq_; have HO_7 := n0_; have HB := n1_; clear n0_ n1_))) | ((with_reducible refine gate_callee (f := 74) rfl ?_); refine goesL_ (some 55) rfl rfl Try.func74 (by kernel_rfl) rfl #[.slice A0 l0.length c0, .int .i64 (wrap64 ((wrap64 (x40_2 - (wrap64 (Int.tdiv a1 32)))) - 1))] rfl (by (try simp only [List.map_toArray, List.map_cons, List.map_nil]); first | done | rfl | (simp only [List.length_drop, List.length_take]; rfl)) ?_; (with_reducible refine (nat_Nat_part.calls _ _ l0 (wrap64 ((wrap64 (x40_2 - (wrap64 (Int.tdiv a1 32)))) - 1)) t141 _ ?side1 ?side2 A20.out).mono ?_); (case side1 => repeat (first | exact (Kd.C_below HR0.out HB.out) | (with_reducible refine Kd.C_alloc ?_ _) | (with_reducible refine Kd.C_drewN ?_ _) | (with_reducible refine Kd.C_drew ?_))); (case side2 => exact HC0.out); rintro e w' ⟨rfl, ⟨nd, rfl⟩⟩; refine ⟨_, rfl, ?_⟩; (try (rw [drewN_self wr]; generalize hq_ : World.drewN wr _ = wr; have n0_ : Aside0 (Kd.R (Kd.int .u32) 89 wr w.heap.size (fun k_ => (w.heap.size ≤ k_)) (.slice Ao17 x7_2.length co17) x7_2) := ⟨by rw [← hq_]; exact (by (with_reducible repeat (first | apply Kd.R_alloc | apply Kd.R_drewN | apply Kd.R_drew)); exact HO_7.out)⟩; have n1_ : Aside0 (Below w.heap.size w wr) := ⟨by rw [← hq_]; exact (by repeat (first | (with_reducible first | exact HB.out | apply below_alloc | apply pw_below_drewN | apply below_drew1) | exact HB.out))⟩; clear HO_7 HB hq_; have HO_7 := n0_; have HB := n1_; clear n0_ n1_)); have p26 : 0 ≤ (x40_2 : Int) := of_decide_eq_true (by first | (with_reducible assumption) | assumption); have q26 : (x40_2 : Int) < ((x7_2.length : Int) : Int) := of_decide_eq_true (by first | (with_reducible assumption) | assumption); obtain ⟨go26, co26, eo26, gb26, gl26, cl26, HG26⟩ := Kd.R_form HO_7.out (by omega); (first | cases eo26 | (injection eo26 with ea_ en_ ec_; (first | subst ea_ | (injection ea_ with ea_; subst ea_)); subst ec_; clear en_)); have GB26 := Aside0.mk gb26; have GG26 := Aside0.mk HG26; clear gb26 gl26 HG26; obtain ⟨hx26_0, hf26_0⟩ := Kd.R_celln 0 HO_7.out (x40_2 : Int) p26 q26; replace p26 := eq_true p26; replace q26 := eq_true q26; obtain ⟨hy27_, hz27_⟩ := Kd.R_celln 0 HO_7.out (x40_2 : Int) (of_decide_eq_true (by first | (with_reducible assumption) | assumption)) (of_decide_eq_true (by first | (with_reducible assumption) | assumption)); have HP27 := Kd.R_putg HO_7.out (x40_2 : Int) (((ji23) / 4294967296) % 4294967296)) | ((with_reducible refine gate_store (t := 89) (p := 66) rfl ?_); refine store_event (t := 89) (p := 66) (v := ?vo_w28) (w1 := (wr.setCell ⟨go26, (x40_2 : Int).toNat, none⟩ (.int .u32 (((ji23) / 4294967296) % 4294967296)))) ?hg ?ho ?hn ?hr ?_; (case ho => rfl); (case hg => rfl); (case hn => rfl); (case hr => first | (go_simp; done) | (go_simp; rfl)); intro w28 hw; have hg : wr.grownBy w28 (some go26) := (by rw [hw]; exact HP27.2); have hp_ : Kd.R (Kd.int .u32) 89 w28 w.heap.size (fun k_ => (w.heap.size ≤ k_)) (.slice (some ⟨go26, 0, none⟩) x7_2.length co17) y142 := (by rw [hw, Ny142.out]; exact HP27.1); clear HP27; have n0_ := Aside0.mk (hp_); have n1_ := Aside0.mk ((by rw [hw]; exact below_set (HB.out) GB26.out : Below w.heap.size w w28)); clear HO_7; clear HB; have HO_7 := n0_; have HB := n1_; clear n0_ n1_; clear hg hw hp_))
                            (try simp only [← hl7_2])
                            go_roundg k2
                            case measure => have := HJ5.out; have := HK2.out; omega
                            case rel => exact ⟨(y142), (wrap64 (x40_2 + 1)), (by first | rfl | (simp; done) | (simp [*]; done) | (simp; omega)), H', ⟨by have := HJ5.out; have := HK2.out; omega⟩, ⟨by (try simp only [hl7_2]); (with_reducible repeat (first | apply Kd.R_alloc | apply Kd.R_drewN | apply Kd.R_drew)); exact HO_7.out⟩, ⟨by repeat (first | (with_reducible first | exact HB.out | apply below_alloc | apply pw_below_drewN | apply below_drew1) | exact HB.out)⟩⟩
                          · rw [if_neg c25] at H
                            exact absurd H (by simp)
                        · rw [if_neg c24] at H
                          exact absurd H (by simp)
                      · rw [if_neg c22] at H
                        exact absurd H (by simp)
                    · rw [if_neg c18] at H
                      have c18b0 : decide (x40_2 < (y137.length : Int)) = false := decide_eq_false c18
                      (try (have c18b0zhl7_2 := c18b0; rw [hl7_2] at c18b0zhl7_2))
                      clear c18
                      replace H := Option.bind_eq_some_iff.mp H
                      obtain ⟨t143, A290, H⟩ := H
                      replace H : (some (t143, 0)) = some (r1, r2) := H
                      have A29 := Aside0.mk A290
                      clear A290
                      simp only [Option.some.injEq, Prod.mk.injEq] at H
                      obtain ⟨rfl, rfl⟩ := H
                      go_wp2_with (first | ((with_reducible refine gate_callee (f := 76) rfl ?_); refine goesL_ (some 69) rfl rfl Try.func76 (by kernel_rfl) rfl #[.func (.func 72) #[] #[], .slice Ao17 x7_2.length co17] rfl (by (try simp only [List.map_toArray, List.map_cons, List.map_nil]); first | done | rfl | (simp only [List.length_drop, List.length_take]; rfl)) ?_; (with_reducible refine (nat_told.calls k2 (fun k_ => some k_ = (.slice Ao17 x7_2.length co17 : Value).ownBlock) _ _ x7_2 t143 _ ?side1 A29.out).mono ?_); (case side1 => exact Kd.R_V (Kd.R_tight rfl (HO_7.out))); rintro e w30 ⟨v144, rfl, ho0, hb⟩; refine ⟨_, rfl, ?_⟩; have n0_ := Aside0.mk (Kd.R_below (by (with_reducible repeat (first | apply Kd.R_alloc | apply Kd.R_drewN | apply Kd.R_drew)); exact HO_7.out) hb); have n1_ := Aside0.mk (Kd.V_lower (Kd.V_mono (ok' := fun k_ => (w.heap.size ≤ k_)) ho0 (fun k_ hk_ => Or.elim hk_ (fun hs_ => ((HO_7.out).1 k_ hs_.symm)) (fun hn_ => (Nat.le_trans (below_size (by repeat (first | (with_reducible first | exact HB.out | apply below_alloc | apply pw_below_drewN | apply below_drew1) | exact HB.out))) hn_)))) (below_size (by repeat (first | (with_reducible first | exact HB.out | apply below_alloc | apply pw_below_drewN | apply below_drew1) | exact HB.out)))); have n2_ := Aside0.mk (below_step (by repeat (first | (with_reducible first | exact HB.out | apply below_alloc | apply pw_below_drewN | apply below_drew1) | exact HB.out)) hb); clear HO_7; clear HB; have HO_7 := n0_; have HO145 := n1_; have HB := n2_; clear n0_ n1_ n2_; (try clear hb); (try clear hb2); (try clear hk); (try clear hi); (try clear ho0)))
                      go_ret2
                      exact ⟨_, by first | rfl | (simp [errW_none, errW_some] <;> rfl) | (simp only [← hji12]; first | rfl | (simp [errW_none, errW_some] <;> rfl)) | (simp [*, errW_none, errW_some] <;> rfl), by (with_reducible repeat (first | apply Kd.V_alloc | apply Kd.V_drewN | apply Kd.V_drew)); exact HO145.out, by repeat (first | (with_reducible first | exact HB.out | apply below_alloc | apply pw_below_drewN | apply below_drew1) | exact HB.out)⟩
              · rw [if_neg c14] at H
                exact absurd H (by simp)
            · rw [if_neg c13] at H
              exact absurd H (by simp)

/-! ### cmp_isNaN_uint32: function 81 -/
def cmp_isNaN_uint32.f (a0 : Int) : Option (Bool) := some (a0 != a0)
set_option maxHeartbeats 8000000 in
set_option maxRecDepth 100000 in
theorem cmp_isNaN_uint32.calls (a0 : Int) (r : Bool) (w : World) (h : cmp_isNaN_uint32.f a0 = some r) :
    Calls Try.prog 81 #[.int .u32 a0] w fun e w' => e = .returned (.bool r) ∧ Drawn0 w w' := by
  have H : (some (a0 != a0)) = some r := h
  clear h
  obtain rfl := Option.some.inj H
  go_enter Try.func81, Try.ntmps81
  go_wp2
  go_ret
  exact ⟨by first | rfl | (simp; done) | (simp [*]; done), by repeat (first | exact Drawn0.refl _ | apply Drawn0.step)⟩

end Go.Proofs.Ytlaffgojgfdlnaa.P
