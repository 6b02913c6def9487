/- The contracts of slipstickref01_Same, nat_Nat_part, nat_Nat_Bit, nat_Of, nat_Nat_Len, slices_IndexNz, nat_Nat_Zeros, nat_told that are used here, at all inputs where their Lean functions tell a result; cut out of what a changed copy of the kit's print wrote. -/
import Derived.Test.YtkgeihbcikiedaaPx0
import Derived.Test.YtkgeihbcikiedaaPx1
namespace Go.Proofs.Ytkgeihbcikiedaa.P
open Go.RowKit Go.Proofs.YtkgeihbcikiedaaW.PrintWords Go.Proofs.YtkgeihbcikiedaaW.PrintLast Go.Proofs.YtkgeihbcikiedaaW.PrintMore
attribute [local go_sem] dM dN eu eB dx dz dO dP
set_option linter.unusedVariables false
set_option linter.unusedSimpArgs false
def cK.l0 : Nat → List Int → List Int → Int → Option (Bool)
 | 0, _, _, _ => none
 | k + 1, x0, x1, x5 => if x5 < (x0.length : Int) then (if 0 ≤ x5 then (if x5 < (x1.length : Int) then (if (rd x0 x5) = (rd x1 x5) then (cK.l0 k x0 x1 (wrap64 (x5 + 1))) else (some false)) else (none)) else (none)) else (some true)
def cK.f (k : Nat) (l0 : List Int) (l1 : List Int) : Option (Bool) := if (l0.length : Int) = (l1.length : Int) then (cK.l0 k l0 l1 0) else (some false)
set_option maxHeartbeats 8000000 in
set_option maxRecDepth 100000 in
theorem cK.calls (k : Nat) (A0 : Option Addr) (c0 : Nat) (l0 : List Int) (A1 : Option Addr) (c1 : Nat) (l1 : List Int) (r : Bool) (w : World) (hr0 : Kd.C (Kd.int .u32) w A0 l0.length l0) (hc0 : l0.length ≤ c0) (hr1 : Kd.C (Kd.int .u32) w A1 l1.length l1) (hc1 : l1.length ≤ c1) (h : cK.f k l0 l1 = some r) :
 Calls Try.prog 36 #[.slice A0 l0.length c0, .slice A1 l1.length c1] w fun e w' => e = .returned (.bool r) ∧ bY w w' := by
 have HR0 := af.mk hr0; have HC0 := af.mk hc0; clear hr0 hc0; have HR1 := af.mk hr1; have HC1 := af.mk hc1; clear hr1 hc1; have H : (if (l0.length : Int) = (l1.length : Int) then (cK.l0 k l0 l1 0) else (some false)) = some r := h; clear h
 by_cases c3 : (l0.length : Int) = (l1.length : Int)
 ·rw [if_pos c3] at H; have lh : ((l0.length : Int) == (l1.length : Int)) = true := beq_iff_eq.mpr c3; have si : ((l0.length : Int) != (l1.length : Int)) = false := bne_eq_false_iff_eq.mpr c3
  have adf : (l0.length == l1.length) = true := by first | simpa using c3 | (simp at c3 ⊢; omega)
  clear c3; have H' := af.mk H; clear H
  go_enter Try.func36, Try.ntmps36
  go_wp2
  repeat (go_quiet (fail); try go_wp2)
  go_loopg [5] k (fun kq v5 w' => ∃ (fQ : Int), v5 = .int .i64 fQ ∧ af (cK.l0 kq l0 l1 fQ = some r) ∧ af (kq ≤ k) ∧ bY w w')
  case atStart => exact ⟨(0), (by first | rfl | (simp; done) | (simp [*]; done) | (simp; omega)), H', ⟨Nat.le_refl _⟩, by repeat (first | exact bY.refl _ | apply bY.step)⟩
  case round =>
   clear H'
   try clear c1
   try clear p2
   try clear c3
   try clear lh
   try clear si
   try clear adf
   obtain ⟨fQ, rfl, HA, HK1, ⟨m1, rfl⟩⟩ := hrel
   cases gk with
   | zero => exact absurd HA.out (by simp [cK.l0])
   | succ k1 =>
    have H := HA.out; clear HA; simp only [cK.l0] at H
    by_cases c4 : fQ < (l0.length : Int)
    ·rw [if_pos c4] at H; have lZ : decide (fQ < (l0.length : Int)) = true := decide_eq_true c4; clear c4
     by_cases c5 : 0 ≤ fQ
     ·rw [if_pos c5] at H; have sV : decide (0 ≤ fQ) = true := decide_eq_true c5; clear c5
      by_cases c6 : fQ < (l1.length : Int)
      ·rw [if_pos c6] at H; have qJ : decide (fQ < (l1.length : Int)) = true := decide_eq_true c6; clear c6
       by_cases c7 : (rd l0 fQ) = (rd l1 fQ)
       ·rw [if_pos c7] at H; have Zx : ((rd l0 fQ) == (rd l1 fQ)) = true := beq_iff_eq.mpr c7; have ajj : ((rd l0 fQ) != (rd l1 fQ)) = false := bne_eq_false_iff_eq.mpr c7; clear c7; have H' := af.mk H; clear H; have Jj : 0 ≤ (fQ : Int) := of_decide_eq_true (by first | (with_reducible assumption) | assumption); have Jk : fQ < (l0.length : Int) := of_decide_eq_true (by first | (with_reducible assumption) | assumption); obtain ⟨adg, Zy, Vb⟩ := Kd.dA HR0.out fQ Jj Jk; cases Zy; replace Jj := eq_true Jj; replace Jk := eq_true Jk; have Jl : 0 ≤ (fQ : Int) := of_decide_eq_true (by first | (with_reducible assumption) | assumption); have Jm : fQ < (l1.length : Int) := of_decide_eq_true (by first | (with_reducible assumption) | assumption); obtain ⟨adh, Zz, Vd⟩ := Kd.dA HR1.out fQ Jl Jm; cases Zz; replace Jl := eq_true Jl; replace Jm := eq_true Jm; go_wp2
        repeat (go_quiet (fail); try go_wp2)
        go_roundg k1
        case measure => have := HK1.out; omega
        case rel => exact ⟨(wrap64 (fQ + 1)), (by first | rfl | (simp; done) | (simp [*]; done) | (simp; omega)), H', ⟨by have := HK1.out; omega⟩, by repeat (first | exact bY.refl _ | apply bY.step)⟩
       ·rw [if_neg c7] at H; have Zx : ((rd l0 fQ) == (rd l1 fQ)) = false := beq_eq_false_iff_ne.mpr c7; have ajj : ((rd l0 fQ) != (rd l1 fQ)) = true := bne_iff_ne.mpr c7; obtain rfl := Option.some.inj H; have Jj : 0 ≤ (fQ : Int) := of_decide_eq_true (by first | (with_reducible assumption) | assumption); have Jk : fQ < (l0.length : Int) := of_decide_eq_true (by first | (with_reducible assumption) | assumption); obtain ⟨adg, Zy, Vb⟩ := Kd.dA HR0.out fQ Jj Jk; cases Zy; replace Jj := eq_true Jj; replace Jk := eq_true Jk; have Jl : 0 ≤ (fQ : Int) := of_decide_eq_true (by first | (with_reducible assumption) | assumption); have Jm : fQ < (l1.length : Int) := of_decide_eq_true (by first | (with_reducible assumption) | assumption); obtain ⟨adh, Zz, Vd⟩ := Kd.dA HR1.out fQ Jl Jm; cases Zz; replace Jl := eq_true Jl; replace Jm := eq_true Jm; go_wp2
        repeat (go_quiet (fail); try go_wp2)
        go_ret; exact ⟨by first | rfl | (simp; done) | (simp [*]; done), by repeat (first | exact bY.refl _ | apply bY.step)⟩
      ·rw [if_neg c6] at H; exact absurd H (by simp)
     ·rw [if_neg c5] at H; exact absurd H (by simp)
    ·rw [if_neg c4] at H; have lZ : decide (fQ < (l0.length : Int)) = false := decide_eq_false c4; clear c4; obtain rfl := Option.some.inj H; go_wp2
     repeat (go_quiet (fail); try go_wp2)
     go_ret; exact ⟨by first | rfl | (simp; done) | (simp [*]; done), by repeat (first | exact bY.refl _ | apply bY.step)⟩
 ·rw [if_neg c3] at H; have lh : ((l0.length : Int) == (l1.length : Int)) = false := beq_eq_false_iff_ne.mpr c3; have si : ((l0.length : Int) != (l1.length : Int)) = true := bne_iff_ne.mpr c3
  have adf : (l0.length == l1.length) = false := by first | simpa using c3 | (simp at c3 ⊢; omega)
  obtain rfl := Option.some.inj H
  go_enter Try.func36, Try.ntmps36
  go_wp2
  repeat (go_quiet (fail); try go_wp2)
  go_ret; exact ⟨by first | rfl | (simp; done) | (simp [*]; done), by repeat (first | exact bY.refl _ | apply bY.step)⟩
def iZ.f (l0 : List Int) (a1 : Int) : Option (Int) := if a1 < 0 then (some 0) else (if a1 ≥ (l0.length : Int) then (some 0) else (if 0 ≤ a1 then (if a1 < (l0.length : Int) then (some (rd l0 a1)) else (none)) else (none)))
set_option maxHeartbeats 8000000 in
set_option maxRecDepth 100000 in
theorem iZ.calls (A0 : Option Addr) (c0 : Nat) (l0 : List Int) (a1 : Int) (r : Int) (w : World) (hr0 : Kd.C (Kd.int .u32) w A0 l0.length l0) (hc0 : l0.length ≤ c0) (h : iZ.f l0 a1 = some r) :
 Calls Try.prog 59 #[.slice A0 l0.length c0, .int .i64 a1] w fun e w' => e = .returned (.int .u32 r) ∧ bY w w' := by
 have HR0 := af.mk hr0; have HC0 := af.mk hc0; clear hr0 hc0; have H : (if a1 < 0 then (some 0) else (if a1 ≥ (l0.length : Int) then (some 0) else (if 0 ≤ a1 then (if a1 < (l0.length : Int) then (some (rd l0 a1)) else (none)) else (none)))) = some r := h; clear h
 by_cases c3 : a1 < 0
 ·rw [if_pos c3] at H; have lh : decide (a1 < 0) = true := decide_eq_true c3; clear c3; obtain rfl := Option.some.inj H
  go_enter Try.func59, Try.ntmps59
  go_wp2; go_ret; exact ⟨by first | rfl | (simp; done) | (simp [*]; done), by repeat (first | exact bY.refl _ | apply bY.step)⟩
 ·rw [if_neg c3] at H; have lh : decide (a1 < 0) = false := decide_eq_false c3; clear c3
  by_cases c4 : a1 ≥ (l0.length : Int)
  ·rw [if_pos c4] at H; have lZ : decide ((l0.length : Int) ≤ a1) = true := decide_eq_true c4; clear c4; obtain rfl := Option.some.inj H
   go_enter Try.func59, Try.ntmps59
   go_wp2; go_ret; exact ⟨by first | rfl | (simp; done) | (simp [*]; done), by repeat (first | exact bY.refl _ | apply bY.step)⟩
  ·rw [if_neg c4] at H; have lZ : decide ((l0.length : Int) ≤ a1) = false := decide_eq_false c4; clear c4
   by_cases c5 : 0 ≤ a1
   ·rw [if_pos c5] at H; have sV : decide (0 ≤ a1) = true := decide_eq_true c5; clear c5
    by_cases c6 : a1 < (l0.length : Int)
    ·rw [if_pos c6] at H; have qJ : decide (a1 < (l0.length : Int)) = true := decide_eq_true c6; clear c6; obtain rfl := Option.some.inj H; have ZA : 0 ≤ (a1 : Int) := of_decide_eq_true (by first | (with_reducible assumption) | assumption); have ZB : a1 < (l0.length : Int) := of_decide_eq_true (by first | (with_reducible assumption) | assumption); obtain ⟨akU, ajk, ahn⟩ := Kd.dA HR0.out a1 ZA ZB; cases ajk; replace ZA := eq_true ZA; replace ZB := eq_true ZB
     go_enter Try.func59, Try.ntmps59
     go_wp2; go_ret; exact ⟨by first | rfl | (simp; done) | (simp [*]; done), by repeat (first | exact bY.refl _ | apply bY.step)⟩
    ·rw [if_neg c6] at H; exact absurd H (by simp)
   ·rw [if_neg c5] at H; exact absurd H (by simp)
def jC.f (l0 : List Int) (a1 : Int) : Option (Int) := if a1 < 0 then (some 0) else ((iZ.f l0 (wrap64 (Int.tdiv a1 32))).bind fun BI => (if 0 ≤ (Int.tmod a1 32) then (some (wrap64 (Go.bits .and .u32 (shr .u32 BI (Int.tmod a1 32)) 1))) else (none)))
set_option maxHeartbeats 8000000 in
set_option maxRecDepth 100000 in
theorem jC.calls (A0 : Option Addr) (c0 : Nat) (l0 : List Int) (a1 : Int) (r : Int) (w : World) (hr0 : Kd.C (Kd.int .u32) w A0 l0.length l0) (hc0 : l0.length ≤ c0) (h : jC.f l0 a1 = some r) :
 Calls Try.prog 71 #[.slice A0 l0.length c0, .int .i64 a1] w fun e w' => e = .returned (.int .i64 r) ∧ bY w w' := by
 have HR0 := af.mk hr0; have HC0 := af.mk hc0; clear hr0 hc0; have H : (if a1 < 0 then (some 0) else ((iZ.f l0 (wrap64 (Int.tdiv a1 32))).bind fun BI => (if 0 ≤ (Int.tmod a1 32) then (some (wrap64 (Go.bits .and .u32 (shr .u32 BI (Int.tmod a1 32)) 1))) else (none)))) = some r := h; clear h
 by_cases c3 : a1 < 0
 ·rw [if_pos c3] at H; have lh : decide (a1 < 0) = true := decide_eq_true c3; clear c3; obtain rfl := Option.some.inj H
  go_enter Try.func71, Try.ntmps71
  go_wp2; go_ret; exact ⟨by first | rfl | (simp; done) | (simp [*]; done), by repeat (first | exact bY.refl _ | apply bY.step)⟩
 ·rw [if_neg c3] at H; have lh : decide (a1 < 0) = false := decide_eq_false c3; clear c3; replace H := Option.bind_eq_some_iff.mp H; obtain ⟨BI, A40, H⟩ := H; replace H : (if 0 ≤ (Int.tmod a1 32) then (some (wrap64 (Go.bits .and .u32 (shr .u32 BI (Int.tmod a1 32)) 1))) else (none)) = some r := H; have A4 := af.mk A40; clear A40
  obtain ⟨ji5, Ve⟩ : ∃ j_ : Int, (Int.tmod a1 32) = j_ := ⟨_, rfl⟩
  replace H : (if 0 ≤ (ji5) then (some (wrap64 (Go.bits .and .u32 (shr .u32 BI (ji5)) 1))) else (none)) = some r := by first | (rw [Ve] at H; exact H) | (simp only [Ve] at H ⊢; exact H)
  (try rw [Ve] at A4)
  by_cases c6 : 0 ≤ (ji5)
  ·rw [if_pos c6] at H; have qJ := eq_true c6; have MP : decide (0 ≤ (ji5)) = true := decide_eq_true c6; clear c6
   obtain ⟨ji7, Nz⟩ : ∃ j_ : Int, (shr .u32 BI (ji5)) = j_ := ⟨_, rfl⟩
   replace H : (some (wrap64 (Go.bits .and .u32 (ji7) 1))) = some r := by first | (rw [Nz] at H; exact H) | (simp only [Nz] at H ⊢; exact H)
   (try rw [Nz] at A4)
   have akV : (BI / 2 ^ min (ji5).toNat 32) = ji7 := Nz; have akW : (ji5) ≤ 32 → (BI / 2 ^ (ji5).toNat) = ji7 := Nv Nz; obtain rfl := Option.some.inj H
   go_enter Try.func71, Try.ntmps71
   go_wp2_with (first | ((with_reducible refine dQ (f := 59) rfl ?_); refine gY (some 10) rfl rfl Try.func59 (by kernel_rfl) rfl #[.slice A0 l0.length c0, .int .i64 (wrap64 (Int.tdiv a1 32))] rfl (by (try simp only [List.map_toArray, List.map_cons, List.map_nil]); first | done | rfl | (simp only [List.length_drop, List.length_take]; rfl)) ?_; (with_reducible refine (iZ.calls _ _ l0 (wrap64 (Int.tdiv a1 32)) BI _ ?iG ?iR A4.out).mono ?_); (case iG => repeat (first | exact HR0.out | (with_reducible refine Kd.eF ?_ _) | (with_reducible refine Kd.eG ?_ _) | (with_reducible refine Kd.fJ ?_))); (case iR => exact HC0.out); rintro e w' ⟨rfl, ⟨nd, rfl⟩⟩; refine ⟨_, rfl, ?_⟩)); go_ret; exact ⟨by first | rfl | (simp; done) | (simp only [← Ve, ← Nz] <;> (first | rfl | simp)) | (simp [*]; done), by repeat (first | exact bY.refl _ | apply bY.step)⟩
  ·rw [if_neg c6] at H; exact absurd H (by simp)
def gJ.l0 : Nat → List Int → Int → Option (Int)
 | 0, _, _ => none
 | k + 1, x0, x3 => if x3 < (x0.length : Int) then (if 0 ≤ x3 then (if (rd x0 x3) = 0 then (gJ.l0 k x0 (wrap64 (x3 + 1))) else (some x3)) else (none)) else (some (-1))
def gJ.f (k : Nat) (l0 : List Int) : Option (Int) := gJ.l0 k l0 0
def iM.l0 : Nat → Int → Int → Option (Int)
 | 0, _, _ => none
 | k + 1, x4, x5 => if (Go.bits .and .u32 x5 1) = 0 then (iM.l0 k (wrap64 (x4 + 1)) (x5 / 2)) else (some x4)
def iM.f (k : Nat) (l0 : List Int) : Option (Int) := (gJ.f k l0).bind fun Qh => (if Qh < 0 then (some 0) else (if 0 ≤ Qh then (if Qh < (l0.length : Int) then (iM.l0 k (wrap64 (32 * Qh)) (rd l0 Qh)) else (none)) else (none)))
end Go.Proofs.Ytkgeihbcikiedaa.P
