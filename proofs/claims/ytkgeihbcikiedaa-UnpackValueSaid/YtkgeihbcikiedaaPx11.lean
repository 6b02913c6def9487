/- The contracts of slipstickref01_Same, nat_Nat_part, nat_Nat_Bit, nat_Of, nat_Nat_Len, slices_IndexNz, nat_Nat_Zeros, nat_told that are used here, at all inputs where their Lean functions tell a result; cut out of what a changed copy of the kit's print wrote. -/
import Derived.Test.YtkgeihbcikiedaaPx0
import Derived.Test.YtkgeihbcikiedaaPx1
namespace Go.Proofs.Ytkgeihbcikiedaa.P
open Go.RowKit Go.Proofs.YtkgeihbcikiedaaW.PrintWords Go.Proofs.YtkgeihbcikiedaaW.PrintLast Go.Proofs.YtkgeihbcikiedaaW.PrintMore
attribute [local go_sem] eU eX fU fV dX dY eZ fo
set_option linter.unusedVariables false
set_option linter.unusedSimpArgs false
def cO.l0 : Nat → List Int → List Int → Int → Option (Bool)
 | 0, _, _, _ => none
 | k + 1, x0, x1, x5 => if x5 < (x0.length : Int) then (if 0 ≤ x5 then (if x5 < (x1.length : Int) then (if (rd x0 x5) = (rd x1 x5) then (cO.l0 k x0 x1 (wrap64 (x5 + 1))) else (some false)) else (none)) else (none)) else (some true)
def cO.f (k : Nat) (l0 : List Int) (l1 : List Int) : Option (Bool) := if (l0.length : Int) = (l1.length : Int) then (cO.l0 k l0 l1 0) else (some false)
set_option maxHeartbeats 8000000 in
set_option maxRecDepth 100000 in
theorem cO.calls (k : Nat) (A0 : Option Addr) (c0 : Nat) (l0 : List Int) (A1 : Option Addr) (c1 : Nat) (l1 : List Int) (r : Bool) (w : World) (hr0 : Kd.C (Kd.int .u32) w A0 l0.length l0) (hc0 : l0.length ≤ c0) (hr1 : Kd.C (Kd.int .u32) w A1 l1.length l1) (hc1 : l1.length ≤ c1) (h : cO.f k l0 l1 = some r) :
 Calls Try.prog 36 #[.slice A0 l0.length c0, .slice A1 l1.length c1] w fun e w' => e = .returned (.bool r) ∧ bF w w' := by
 have HR0 := af.mk hr0; have HC0 := af.mk hc0; clear hr0 hc0; have HR1 := af.mk hr1; have HC1 := af.mk hc1; clear hr1 hc1; have H : (if (l0.length : Int) = (l1.length : Int) then (cO.l0 k l0 l1 0) else (some false)) = some r := h; clear h
 by_cases c3 : (l0.length : Int) = (l1.length : Int)
 ·rw [if_pos c3] at H; have ky : ((l0.length : Int) == (l1.length : Int)) = true := beq_iff_eq.mpr c3; have nZ : ((l0.length : Int) != (l1.length : Int)) = false := bne_eq_false_iff_eq.mpr c3
  have Vd : (l0.length == l1.length) = true := by first | simpa using c3 | (simp at c3 ⊢; omega)
  clear c3; have H' := af.mk H; clear H
  go_enter Try.func36, Try.ntmps36
  go_wp2
  repeat (go_quiet (fail); try go_wp2)
  go_loopg [5] k (fun kq v5 w' => ∃ (eu : Int), v5 = .int .i64 eu ∧ af (cO.l0 kq l0 l1 eu = some r) ∧ af (kq ≤ k) ∧ bF w w')
  case atStart => exact ⟨(0), (by first | rfl | (simp; done) | (simp [*]; done) | (simp; omega)), H', ⟨Nat.le_refl _⟩, by repeat (first | exact bF.refl _ | apply bF.step)⟩
  case round =>
   clear H'
   try clear c1
   try clear p2
   try clear c3
   try clear ky
   try clear nZ
   try clear Vd
   obtain ⟨eu, rfl, HA, HK1, ⟨m1, rfl⟩⟩ := hrel
   cases gk with
   | zero => exact absurd HA.out (by simp [cO.l0])
   | succ k1 =>
    have H := HA.out; clear HA; simp only [cO.l0] at H
    by_cases c4 : eu < (l0.length : Int)
    ·rw [if_pos c4] at H; have jR : decide (eu < (l0.length : Int)) = true := decide_eq_true c4; clear c4
     by_cases c5 : 0 ≤ eu
     ·rw [if_pos c5] at H; have oW : decide (0 ≤ eu) = true := decide_eq_true c5; clear c5
      by_cases c6 : eu < (l1.length : Int)
      ·rw [if_pos c6] at H; have oC : decide (eu < (l1.length : Int)) = true := decide_eq_true c6; clear c6
       by_cases c7 : (rd l0 eu) = (rd l1 eu)
       ·rw [if_pos c7] at H; have Om : ((rd l0 eu) == (rd l1 eu)) = true := beq_iff_eq.mpr c7; have Oo : ((rd l0 eu) != (rd l1 eu)) = false := bne_eq_false_iff_eq.mpr c7; clear c7; have H' := af.mk H; clear H; have JJ : 0 ≤ (eu : Int) := of_decide_eq_true (by first | (with_reducible assumption) | assumption); have JK : eu < (l0.length : Int) := of_decide_eq_true (by first | (with_reducible assumption) | assumption); obtain ⟨adc, ZC, Ve⟩ := Kd.cZ HR0.out eu JJ JK; cases ZC; replace JJ := eq_true JJ; replace JK := eq_true JK; have JL : 0 ≤ (eu : Int) := of_decide_eq_true (by first | (with_reducible assumption) | assumption); have JM : eu < (l1.length : Int) := of_decide_eq_true (by first | (with_reducible assumption) | assumption); obtain ⟨ade, ZE, Vf⟩ := Kd.cZ HR1.out eu JL JM; cases ZE; replace JL := eq_true JL; replace JM := eq_true JM; go_wp2
        repeat (go_quiet (fail); try go_wp2)
        go_roundg k1
        case measure => have := HK1.out; omega
        case rel => exact ⟨(wrap64 (eu + 1)), (by first | rfl | (simp; done) | (simp [*]; done) | (simp; omega)), H', ⟨by have := HK1.out; omega⟩, by repeat (first | exact bF.refl _ | apply bF.step)⟩
       ·rw [if_neg c7] at H; have Om : ((rd l0 eu) == (rd l1 eu)) = false := beq_eq_false_iff_ne.mpr c7; have Oo : ((rd l0 eu) != (rd l1 eu)) = true := bne_iff_ne.mpr c7; obtain rfl := Option.some.inj H; have JJ : 0 ≤ (eu : Int) := of_decide_eq_true (by first | (with_reducible assumption) | assumption); have JK : eu < (l0.length : Int) := of_decide_eq_true (by first | (with_reducible assumption) | assumption); obtain ⟨adc, ZC, Ve⟩ := Kd.cZ HR0.out eu JJ JK; cases ZC; replace JJ := eq_true JJ; replace JK := eq_true JK; have JL : 0 ≤ (eu : Int) := of_decide_eq_true (by first | (with_reducible assumption) | assumption); have JM : eu < (l1.length : Int) := of_decide_eq_true (by first | (with_reducible assumption) | assumption); obtain ⟨ade, ZE, Vf⟩ := Kd.cZ HR1.out eu JL JM; cases ZE; replace JL := eq_true JL; replace JM := eq_true JM; go_wp2
        repeat (go_quiet (fail); try go_wp2)
        go_ret; exact ⟨by first | rfl | (simp; done) | (simp [*]; done), by repeat (first | exact bF.refl _ | apply bF.step)⟩
      ·rw [if_neg c6] at H; exact absurd H (by simp)
     ·rw [if_neg c5] at H; exact absurd H (by simp)
    ·rw [if_neg c4] at H; have jR : decide (eu < (l0.length : Int)) = false := decide_eq_false c4; clear c4; obtain rfl := Option.some.inj H; go_wp2
     repeat (go_quiet (fail); try go_wp2)
     go_ret; exact ⟨by first | rfl | (simp; done) | (simp [*]; done), by repeat (first | exact bF.refl _ | apply bF.step)⟩
 ·rw [if_neg c3] at H; have ky : ((l0.length : Int) == (l1.length : Int)) = false := beq_eq_false_iff_ne.mpr c3; have nZ : ((l0.length : Int) != (l1.length : Int)) = true := bne_iff_ne.mpr c3
  have Vd : (l0.length == l1.length) = false := by first | simpa using c3 | (simp at c3 ⊢; omega)
  obtain rfl := Option.some.inj H
  go_enter Try.func36, Try.ntmps36
  go_wp2
  repeat (go_quiet (fail); try go_wp2)
  go_ret; exact ⟨by first | rfl | (simp; done) | (simp [*]; done), by repeat (first | exact bF.refl _ | apply bF.step)⟩
def bV.f (l0 : List Int) (a1 : Int) : Option (Int) := if a1 < 0 then (some 0) else (if a1 ≥ (l0.length : Int) then (some 0) else (if 0 ≤ a1 then (if a1 < (l0.length : Int) then (some (rd l0 a1)) else (none)) else (none)))
set_option maxHeartbeats 8000000 in
set_option maxRecDepth 100000 in
theorem bV.calls (A0 : Option Addr) (c0 : Nat) (l0 : List Int) (a1 : Int) (r : Int) (w : World) (hr0 : Kd.C (Kd.int .u32) w A0 l0.length l0) (hc0 : l0.length ≤ c0) (h : bV.f l0 a1 = some r) :
 Calls Try.prog 59 #[.slice A0 l0.length c0, .int .i64 a1] w fun e w' => e = .returned (.int .u32 r) ∧ bF w w' := by
 have HR0 := af.mk hr0; have HC0 := af.mk hc0; clear hr0 hc0; have H : (if a1 < 0 then (some 0) else (if a1 ≥ (l0.length : Int) then (some 0) else (if 0 ≤ a1 then (if a1 < (l0.length : Int) then (some (rd l0 a1)) else (none)) else (none)))) = some r := h; clear h
 by_cases c3 : a1 < 0
 ·rw [if_pos c3] at H; have ky : decide (a1 < 0) = true := decide_eq_true c3; clear c3; obtain rfl := Option.some.inj H
  go_enter Try.func59, Try.ntmps59
  go_wp2; go_ret; exact ⟨by first | rfl | (simp; done) | (simp [*]; done), by repeat (first | exact bF.refl _ | apply bF.step)⟩
 ·rw [if_neg c3] at H; have ky : decide (a1 < 0) = false := decide_eq_false c3; clear c3
  by_cases c4 : a1 ≥ (l0.length : Int)
  ·rw [if_pos c4] at H; have jR : decide ((l0.length : Int) ≤ a1) = true := decide_eq_true c4; clear c4; obtain rfl := Option.some.inj H
   go_enter Try.func59, Try.ntmps59
   go_wp2; go_ret; exact ⟨by first | rfl | (simp; done) | (simp [*]; done), by repeat (first | exact bF.refl _ | apply bF.step)⟩
  ·rw [if_neg c4] at H; have jR : decide ((l0.length : Int) ≤ a1) = false := decide_eq_false c4; clear c4
   by_cases c5 : 0 ≤ a1
   ·rw [if_pos c5] at H; have oW : decide (0 ≤ a1) = true := decide_eq_true c5; clear c5
    by_cases c6 : a1 < (l0.length : Int)
    ·rw [if_pos c6] at H; have oC : decide (a1 < (l0.length : Int)) = true := decide_eq_true c6; clear c6; obtain rfl := Option.some.inj H; have ZF : 0 ≤ (a1 : Int) := of_decide_eq_true (by first | (with_reducible assumption) | assumption); have ZG : a1 < (l0.length : Int) := of_decide_eq_true (by first | (with_reducible assumption) | assumption); obtain ⟨akA, aiT, agO⟩ := Kd.cZ HR0.out a1 ZF ZG; cases aiT; replace ZF := eq_true ZF; replace ZG := eq_true ZG
     go_enter Try.func59, Try.ntmps59
     go_wp2; go_ret; exact ⟨by first | rfl | (simp; done) | (simp [*]; done), by repeat (first | exact bF.refl _ | apply bF.step)⟩
    ·rw [if_neg c6] at H; exact absurd H (by simp)
   ·rw [if_neg c5] at H; exact absurd H (by simp)
def zD.f (k : Nat) (a0 : Int) : Option (List Int) := (bZ.f k (([(a0) % 4294967296, (a0 / 4294967296) % 4294967296] : List Int))).bind fun Gw => (some Gw)
set_option maxHeartbeats 8000000 in
set_option maxRecDepth 100000 in
theorem zD.calls (k : Nat) (a0 : Int) (r : List Int) (w : World) (h : zD.f k a0 = some r) :
 Calls Try.prog 45 #[.int .u64 a0] w fun e w' => ∃ v0_ : Value, e = .returned (v0_) ∧ Kd.V (Kd.int .u32) 73 w' w.heap.size (fun k_ => (w.heap.size ≤ k_)) v0_ r ∧ Below w.heap.size w w' := by
 have HB := af.mk (Below.refl w.heap.size w); have H : ((bZ.f k (([(a0) % 4294967296, (a0 / 4294967296) % 4294967296] : List Int))).bind fun Gw => (some Gw)) = some r := h; clear h
 obtain ⟨Vg, Gx⟩ : ∃ y_ : List Int, y_ = (([(a0) % 4294967296, (a0 / 4294967296) % 4294967296] : List Int)) := ⟨_, rfl⟩
 replace H : ((bZ.f k Vg).bind fun Gw => (some Gw)) = some r := by first | (rw [Gx]; with_reducible exact H) | (have H2_ := (Option.bind_some _ _).symm.trans H; rw [Gx]; with_reducible exact H2_) | (have H2_ := (Option.bind_some _ _).symm.trans H; with_reducible exact H2_) | with_reducible exact H | (rw [Gx]; exact H) | exact H
 have Xd := af.mk Gx; clear Gx; replace H := Option.bind_eq_some_iff.mp H; obtain ⟨Gw, A20, H⟩ := H; replace H : (some Gw) = some r := H; have A2 := af.mk A20; clear A20; obtain rfl := Option.some.inj H
 go_enter Try.func45, Try.ntmps45
 go_wp2_with (first | ((with_reducible refine bS (N := 8) rfl ?_); refine Kd.oz (Kd.int .u32) _ 73 ?hg (N := 8) ?hd (xs := ([(a0) % 4294967296, (a0 / 4294967296) % 4294967296] : List Int)) (inner := [.int .u32 ((a0) % 4294967296), .int .u32 ((a0 / 4294967296) % 4294967296)]) (ok := fun _ => True) (okp := fun _ => True) ?hr ?hp (fun _ hk => hk) trivial (Below.refl _ _) (Nat.le_refl _) (by simp) ?_; (case hd => rfl); (case hg => rfl); (case hr => first | (go_simp; done) | (go_simp; rfl)); (case hp => exact (eF.one (show Kd.M (Kd.int .u32) _ _ _ ((a0) % 4294967296) [.int .u32 ((a0) % 4294967296)] from rfl) (eF.one (show Kd.M (Kd.int .u32) _ _ _ ((a0 / 4294967296) % 4294967296) [.int .u32 ((a0 / 4294967296) % 4294967296)] from rfl) (eF.none _ _)))); intro amf w3 ho4 hb hg_ hnew_; clear hg_ hnew_; (first | rw [← Xd.out] at ho4 | (simp only [Int.reduceToNat] at ho4; rw [← Xd.out] at ho4)); have n0_ := af.mk (Kd.fA (Kd.CY (M := fun k_ => (w.heap.size ≤ k_)) ho4 (az (by repeat (first | (with_reducible first | exact HB.out | apply ai | apply ah | apply aj) | exact HB.out))) (fun k_ h_ => h_)) (az (by repeat (first | (with_reducible first | exact HB.out | apply ai | apply ah | apply aj) | exact HB.out)))); have n1_ := af.mk (aA (by repeat (first | (with_reducible first | exact HB.out | apply ai | apply ah | apply aj) | exact HB.out)) hb); clear HB; have Ci := n0_; have HB := n1_; clear n0_ n1_; clear hb ho4; obtain ⟨Ao5, co5, eo5⟩ := Kd.bQ Ci.out; subst eo5) | ((with_reducible refine aZ (f := 58) rfl ?_); refine dG (some 9) rfl rfl Try.func58 (by kernel_rfl) rfl #[.slice Ao5 Vg.length co5] rfl (by (try simp only [List.map_toArray, List.map_cons, List.map_nil]); first | done | rfl | (simp only [List.length_drop, List.length_take]; rfl)) ?_; (with_reducible refine (bZ.calls k (fun k_ => some k_ = (.slice Ao5 Vg.length co5 : Value).ownBlock) _ _ Vg Gw _ ?dQ A2.out).mono ?_); (case dQ => exact Kd.R_V (Kd.kR rfl (Ci.out))); rintro e w6 ⟨amg, rfl, ho0, hb⟩; refine ⟨_, rfl, ?_⟩; have n0_ := af.mk (Kd.dE (by (with_reducible repeat (first | apply Kd.aW | apply Kd.aX | apply Kd.bn)); exact Ci.out) hb); have n1_ := af.mk (Kd.lU (Kd.iB (ok' := fun k_ => (w.heap.size ≤ k_)) ho0 (fun k_ hk_ => Or.elim hk_ (fun hs_ => ((Ci.out).1 k_ hs_.symm).1) (fun hn_ => (Nat.le_trans (az (by repeat (first | (with_reducible first | exact HB.out | apply ai | apply ah | apply aj) | exact HB.out))) hn_)))) (az (by repeat (first | (with_reducible first | exact HB.out | apply ai | apply ah | apply aj) | exact HB.out)))); have n2_ := af.mk (aA (by repeat (first | (with_reducible first | exact HB.out | apply ai | apply ah | apply aj) | exact HB.out)) hb); clear Ci; clear HB; have Ci := n0_; have adf := n1_; have HB := n2_; clear n0_ n1_ n2_; (try clear hb); (try clear hb2); (try clear hk); (try clear hi); (try clear ho0))); go_ret; exact ⟨_, by first | rfl | (simp [aD, aG] <;> rfl) | (simp [*, aD, aG] <;> rfl), by (with_reducible repeat (first | apply Kd.jg | apply Kd.jh | apply Kd.kz)); exact adf.out, by repeat (first | (with_reducible first | exact HB.out | apply ai | apply ah | apply aj) | exact HB.out)⟩
def dV.l0 : Nat → Int → Int → Option (Int)
 | 0, _, _ => none
 | k + 1, x4, x5 => if x5 > 0 then (dV.l0 k (wrap64 (x4 + 1)) (x5 / 2)) else (some x4)
def dV.f (k : Nat) (l0 : List Int) : Option (Int) := (bZ.f k l0).bind fun jC => (if (jC.length : Int) = 0 then (some 0) else (if 0 ≤ (wrap64 ((jC.length : Int) - 1)) then (if (wrap64 ((jC.length : Int) - 1)) < (jC.length : Int) then (dV.l0 k (wrap64 (32 * (wrap64 ((jC.length : Int) - 1)))) (rd jC (wrap64 ((jC.length : Int) - 1)))) else (none)) else (none)))
set_option maxHeartbeats 8000000 in
set_option maxRecDepth 100000 in
theorem dV.calls (k : Nat) (A0 : Option Addr) (c0 : Nat) (l0 : List Int) (r : Int) (w : World) (hr0 : Kd.C (Kd.int .u32) w A0 l0.length l0) (hc0 : l0.length ≤ c0) (h : dV.f k l0 = some r) :
 Calls Try.prog 81 #[.slice A0 l0.length c0] w fun e w' => e = .returned (.int .i64 r) ∧ Below w.heap.size w w' := by
 have HR0 := af.mk hr0; have HC0 := af.mk hc0; clear hr0 hc0; have HB := af.mk (Below.refl w.heap.size w); have H : ((bZ.f k l0).bind fun jC => (if (jC.length : Int) = 0 then (some 0) else (if 0 ≤ (wrap64 ((jC.length : Int) - 1)) then (if (wrap64 ((jC.length : Int) - 1)) < (jC.length : Int) then (dV.l0 k (wrap64 (32 * (wrap64 ((jC.length : Int) - 1)))) (rd jC (wrap64 ((jC.length : Int) - 1)))) else (none)) else (none)))) = some r := h; clear h; replace H := Option.bind_eq_some_iff.mp H; obtain ⟨jC, A20, H⟩ := H; replace H : (if (jC.length : Int) = 0 then (some 0) else (if 0 ≤ (wrap64 ((jC.length : Int) - 1)) then (if (wrap64 ((jC.length : Int) - 1)) < (jC.length : Int) then (dV.l0 k (wrap64 (32 * (wrap64 ((jC.length : Int) - 1)))) (rd jC (wrap64 ((jC.length : Int) - 1)))) else (none)) else (none))) = some r := H; have A2 := af.mk A20; clear A20
 by_cases c3 : (jC.length : Int) = 0
 ·rw [if_pos c3] at H; have ky : ((jC.length : Int) == 0) = true := beq_iff_eq.mpr c3; have nZ : ((jC.length : Int) != 0) = false := bne_eq_false_iff_eq.mpr c3; clear c3; obtain rfl := Option.some.inj H
  go_enter Try.func81, Try.ntmps81
  go_wp2_with (first | ((with_reducible refine aZ (f := 58) rfl ?_); refine dG (some 7) rfl rfl Try.func58 (by kernel_rfl) rfl #[.slice A0 l0.length c0] rfl (by (try simp only [List.map_toArray, List.map_cons, List.map_nil]); first | done | rfl | (simp only [List.length_drop, List.length_take]; rfl)) ?_; (with_reducible refine (bZ.calls k (fun k_ => k_ < w.heap.size) _ _ l0 jC _ ?dQ A2.out).mono ?_); (case dQ => exact Kd.vQ HC0.out (Kd.lT (Kd.C_F (Kd.qC .u32) HR0.out) (by repeat (first | (with_reducible first | exact HB.out | apply ai | apply ah | apply aj) | exact HB.out)))); rintro e w4 ⟨aiU, rfl, ho0, hb⟩; refine ⟨_, rfl, ?_⟩; have n0_ := af.mk (Kd.lU (Kd.iB (ok' := fun k_ => True) ho0 (fun k_ hk_ => trivial)) (az (by repeat (first | (with_reducible first | exact HB.out | apply ai | apply ah | apply aj) | exact HB.out)))); have n1_ := af.mk (aA (by repeat (first | (with_reducible first | exact HB.out | apply ai | apply ah | apply aj) | exact HB.out)) hb); clear HB; have LW := n0_; have HB := n1_; clear n0_ n1_; (try clear hb); (try clear hb2); (try clear hk); (try clear hi); (try clear ho0); obtain ⟨Ao5, co5, eo5⟩ := Kd.jv LW.out; subst eo5)); go_ret; exact ⟨by first | rfl | (simp [aD, aG] <;> rfl) | (simp [*, aD, aG] <;> rfl), by repeat (first | (with_reducible first | exact HB.out | apply ai | apply ah | apply aj) | exact HB.out)⟩
 ·rw [if_neg c3] at H; have ky : ((jC.length : Int) == 0) = false := beq_eq_false_iff_ne.mpr c3; have nZ : ((jC.length : Int) != 0) = true := bne_iff_ne.mpr c3
  have Vd : ¬ (jC = []) := fun h_ => c3 (by rw [h_]; rfl)
  obtain ⟨ji6, JN⟩ : ∃ j_ : Int, (wrap64 ((jC.length : Int) - 1)) = j_ := ⟨_, rfl⟩
  replace H : (if 0 ≤ (ji6) then (if (ji6) < (jC.length : Int) then (dV.l0 k (wrap64 (32 * (ji6))) (rd jC (ji6))) else (none)) else (none)) = some r := by first | (rw [JN] at H; exact H) | (simp only [JN] at H ⊢; exact H)
  (try rw [JN] at A2)
  have akB : (IntKind.i64.wrap ((jC.length : Int) - 1)) = ji6 := (aU _).trans JN
  by_cases c7 : 0 ≤ (ji6)
  ·rw [if_pos c7] at H; have Om : decide (0 ≤ (ji6)) = true := decide_eq_true c7; clear c7
   by_cases c8 : (ji6) < (jC.length : Int)
   ·rw [if_pos c8] at H; have kQ : decide ((ji6) < (jC.length : Int)) = true := decide_eq_true c8; clear c8; have H' := af.mk H; clear H
    go_enter Try.func81, Try.ntmps81
    go_wp2_with (first | ((with_reducible refine aZ (f := 58) rfl ?_); refine dG (some 7) rfl rfl Try.func58 (by kernel_rfl) rfl #[.slice A0 l0.length c0] rfl (by (try simp only [List.map_toArray, List.map_cons, List.map_nil]); first | done | rfl | (simp only [List.length_drop, List.length_take]; rfl)) ?_; (with_reducible refine (bZ.calls k (fun k_ => k_ < w.heap.size) _ _ l0 jC _ ?dQ A2.out).mono ?_); (case dQ => exact Kd.vQ HC0.out (Kd.lT (Kd.C_F (Kd.qC .u32) HR0.out) (by repeat (first | (with_reducible first | exact HB.out | apply ai | apply ah | apply aj) | exact HB.out)))); rintro e w9 ⟨aiU, rfl, ho0, hb⟩; refine ⟨_, rfl, ?_⟩; have n0_ := af.mk (Kd.lU (Kd.iB (ok' := fun k_ => True) ho0 (fun k_ hk_ => trivial)) (az (by repeat (first | (with_reducible first | exact HB.out | apply ai | apply ah | apply aj) | exact HB.out)))); have n1_ := af.mk (aA (by repeat (first | (with_reducible first | exact HB.out | apply ai | apply ah | apply aj) | exact HB.out)) hb); clear HB; have LW := n0_; have HB := n1_; clear n0_ n1_; (try clear hb); (try clear hb2); (try clear hk); (try clear hi); (try clear ho0); obtain ⟨Yk, Yl, Ym⟩ := Kd.jv LW.out; subst Ym; have Vh : 0 ≤ ((ji6) : Int) := of_decide_eq_true (by first | (with_reducible assumption) | assumption); have Vi : (ji6) < (jC.length : Int) := of_decide_eq_true (by first | (with_reducible assumption) | assumption); obtain ⟨akC, aiV, Vj⟩ := Kd.cZ (Kd.jl LW.out).2.2 (ji6) Vh Vi; cases aiV; replace Vh := eq_true Vh; replace Vi := eq_true Vi))
    go_loopg [4, 5] k (fun kq v4 v5 w' => ∃ (fD : Int) (eu : Int), v4 = .int .i64 fD ∧ v5 = .int .u32 eu ∧ af (dV.l0 kq fD eu = some r) ∧ af (kq ≤ k) ∧ af (Below w.heap.size w w'))
    case atStart => exact ⟨(wrap64 (32 * (ji6))), (rd jC (ji6)), (by first | rfl | (simp; done) | (simp only [← JN] <;> (first | rfl | simp)) | (simp [*]; done) | (simp; omega)), (by first | rfl | (simp; done) | (simp only [← JN] <;> (first | rfl | simp)) | (simp [*]; done) | (simp; omega)), H', ⟨Nat.le_refl _⟩, ⟨by repeat (first | (with_reducible first | exact HB.out | apply ai | apply ah | apply aj) | exact HB.out)⟩⟩
    case round =>
     clear H'
     try clear p2
     try clear c3
     try clear ky
     try clear nZ
     try clear Vd
     try clear p3
     try clear q3
     try clear hx3
     try clear c5
     try clear p6
     try clear c7
     try clear Om
     try clear c8
     try clear kQ
     try clear Vj
     try clear Vh
     try clear Vi
     obtain ⟨fD, eu, rfl, rfl, HA, HK1, HB⟩ := hrel
     cases gk with
     | zero => exact absurd HA.out (by simp [dV.l0])
     | succ k1 =>
      have H := HA.out; clear HA; simp only [dV.l0] at H
      by_cases c11 : eu > 0
      ·rw [if_pos c11] at H; have kK : decide (0 < eu) = true := decide_eq_true c11; clear c11; have H' := af.mk H; clear H; go_wp2
       go_roundg k1
       case measure => have := HK1.out; omega
       case rel => exact ⟨(wrap64 (fD + 1)), (eu / 2), (by first | rfl | (simp; done) | (simp [*]; done) | (simp; omega)), (by first | rfl | (simp; done) | (simp [*]; done) | (simp; omega)), H', ⟨by have := HK1.out; omega⟩, ⟨by repeat (first | (with_reducible first | exact HB.out | apply ai | apply ah | apply aj) | exact HB.out)⟩⟩
      ·rw [if_neg c11] at H; have kK : decide (0 < eu) = false := decide_eq_false c11; clear c11; obtain rfl := Option.some.inj H; go_wp2; go_ret; exact ⟨by first | rfl | (simp [aD, aG] <;> rfl) | (simp only [← JN]; first | rfl | (simp [aD, aG] <;> rfl)) | (simp [*, aD, aG] <;> rfl), by repeat (first | (with_reducible first | exact HB.out | apply ai | apply ah | apply aj) | exact HB.out)⟩
   ·rw [if_neg c8] at H; exact absurd H (by simp)
  ·rw [if_neg c7] at H; exact absurd H (by simp)
def dW.l0 : Nat → List Int → Int → Option (Int)
 | 0, _, _ => none
 | k + 1, x0, x3 => if x3 < (x0.length : Int) then (if 0 ≤ x3 then (if (rd x0 x3) = 0 then (dW.l0 k x0 (wrap64 (x3 + 1))) else (some x3)) else (none)) else (some (-1))
def dW.f (k : Nat) (l0 : List Int) : Option (Int) := dW.l0 k l0 0
theorem zO (x : Int) (w : World) :
 Calls Try.prog 100 #[.int .u32 x] w fun e w' => e = .returned (.bool (x != 0)) ∧ bF w w' := by
 go_enter Try.func100, Try.ntmps100
 go_wp2; go_ret; exact ⟨rfl, bF.refl _⟩
set_option maxHeartbeats 8000000 in
set_option maxRecDepth 100000 in
theorem dW.calls (k : Nat) (A0 : Option Addr) (c0 : Nat) (l0 : List Int) (r : Int) (w : World) (hr0 : Kd.C (Kd.int .u32) w A0 l0.length l0) (hc0 : l0.length ≤ c0) (h : dW.f k l0 = some r) :
 Calls Try.prog 99 #[.slice A0 l0.length c0, .func (.func 100) #[] #[]] w fun e w' => e = .returned (.int .i64 r) ∧ bF w w' := by
 have HR0 := af.mk hr0; have HC0 := af.mk hc0; clear hr0 hc0; have H' := af.mk (show dW.l0 k l0 0 = some r from h); clear h
 go_enter Try.func99, Try.ntmps99
 go_wp2
 go_loopg [5, 8] k (fun kq v5 v8 w' => ∃ (je : Int), v8 = .int .i64 je ∧ af (dW.l0 kq l0 je = some r) ∧ af (kq ≤ k) ∧ bF w w')
 case atStart => exact ⟨0, rfl, H', ⟨Nat.le_refl _⟩, bF.refl _⟩
 case round =>
  clear H'; obtain ⟨je, rfl, HA, HK1, ⟨m1, rfl⟩⟩ := hrel
  cases gk with
  | zero => exact absurd HA.out (by simp [dW.l0])
  | succ k1 =>
   have H := HA.out; clear HA; simp only [dW.l0] at H
   by_cases c4 : je < (l0.length : Int)
   ·rw [if_pos c4] at H; have jR : decide (je < (l0.length : Int)) = true := decide_eq_true c4
    by_cases c5 : 0 ≤ je
    ·rw [if_pos c5] at H; have oW : decide (0 ≤ je) = true := decide_eq_true c5; obtain ⟨ad, e_, hx⟩ := Kd.cZ HR0.out je c5 c4; cases e_; replace c4 := eq_true c4; replace c5 := eq_true c5
     by_cases c7 : (rd l0 je) = 0
     ·rw [if_pos c7] at H; have Oo : ((rd l0 je) != 0) = false := bne_eq_false_iff_eq.mpr c7; clear c7; have H' := af.mk H; clear H; go_wp2_with (go_at_call 100; with_reducible refine (zO (rd l0 je) _).mono ?_; rintro e w1 ⟨rfl, ⟨m2, rfl⟩⟩; rw [Oo])
      go_roundg k1
      case measure => have := HK1.out; omega
      case rel => exact ⟨(wrap64 (je + 1)), (by first | rfl | (simp; done) | (simp [*]; done)), H', ⟨by have := HK1.out; omega⟩, by repeat (first | exact bF.refl _ | apply bF.step)⟩
     ·rw [if_neg c7] at H; have Oo : ((rd l0 je) != 0) = true := bne_iff_ne.mpr c7; clear c7; obtain rfl := Option.some.inj H; clear H; go_wp2_with (go_at_call 100; with_reducible refine (zO (rd l0 je) _).mono ?_; rintro e w1 ⟨rfl, ⟨m2, rfl⟩⟩; rw [Oo]); go_ret; exact ⟨by first | rfl | (simp; done) | (simp [*]; done), by repeat (first | exact bF.refl _ | apply bF.step)⟩
    ·rw [if_neg c5] at H; exact absurd H (by simp)
   ·rw [if_neg c4] at H; have jR : decide (je < (l0.length : Int)) = false := decide_eq_false c4; clear c4; obtain rfl := Option.some.inj H; clear H; go_wp2; go_ret; exact ⟨by first | rfl | (simp; done) | (simp [*]; done), by repeat (first | exact bF.refl _ | apply bF.step)⟩
def dD.l0 : Nat → Int → Int → Option (Int)
 | 0, _, _ => none
 | k + 1, x4, x5 => if (Go.bits .and .u32 x5 1) = 0 then (dD.l0 k (wrap64 (x4 + 1)) (x5 / 2)) else (some x4)
def dD.f (k : Nat) (l0 : List Int) : Option (Int) := (dW.f k l0).bind fun kJ => (if kJ < 0 then (some 0) else (if 0 ≤ kJ then (if kJ < (l0.length : Int) then (dD.l0 k (wrap64 (32 * kJ)) (rd l0 kJ)) else (none)) else (none)))
set_option maxHeartbeats 8000000 in
set_option maxRecDepth 100000 in
theorem dD.calls (k : Nat) (A0 : Option Addr) (c0 : Nat) (l0 : List Int) (r : Int) (w : World) (hr0 : Kd.C (Kd.int .u32) w A0 l0.length l0) (hc0 : l0.length ≤ c0) (h : dD.f k l0 = some r) :
 Calls Try.prog 91 #[.slice A0 l0.length c0] w fun e w' => e = .returned (.int .i64 r) ∧ bF w w' := by
 have HR0 := af.mk hr0; have HC0 := af.mk hc0; clear hr0 hc0; have H : ((dW.f k l0).bind fun kJ => (if kJ < 0 then (some 0) else (if 0 ≤ kJ then (if kJ < (l0.length : Int) then (dD.l0 k (wrap64 (32 * kJ)) (rd l0 kJ)) else (none)) else (none)))) = some r := h; clear h; replace H := Option.bind_eq_some_iff.mp H; obtain ⟨kJ, A20, H⟩ := H; replace H : (if kJ < 0 then (some 0) else (if 0 ≤ kJ then (if kJ < (l0.length : Int) then (dD.l0 k (wrap64 (32 * kJ)) (rd l0 kJ)) else (none)) else (none))) = some r := H; have A2 := af.mk A20; clear A20
 by_cases c3 : kJ < 0
 ·rw [if_pos c3] at H; have ky : decide (kJ < 0) = true := decide_eq_true c3; clear c3; obtain rfl := Option.some.inj H
  go_enter Try.func91, Try.ntmps91
  go_wp2_with (first | ((with_reducible refine aZ (f := 99) rfl ?_); refine dG (some 7) rfl rfl Try.func99 (by kernel_rfl) rfl #[.slice A0 l0.length c0, .func (.func 100) #[] #[]] rfl (by (try simp only [List.map_toArray, List.map_cons, List.map_nil]); first | done | rfl | (simp only [List.length_drop, List.length_take]; rfl)) ?_; (with_reducible refine (dW.calls k _ _ l0 kJ _ ?dQ ?fC A2.out).mono ?_); (case dQ => repeat (first | exact HR0.out | (with_reducible refine Kd.dB ?_ _) | (with_reducible refine Kd.dC ?_ _) | (with_reducible refine Kd.eD ?_))); (case fC => exact HC0.out); rintro e w' ⟨rfl, ⟨nd, rfl⟩⟩; refine ⟨_, rfl, ?_⟩)); go_ret; exact ⟨by first | rfl | (simp; done) | (simp [*]; done), by repeat (first | exact bF.refl _ | apply bF.step)⟩
 ·rw [if_neg c3] at H; have ky : decide (kJ < 0) = false := decide_eq_false c3; clear c3
  by_cases c4 : 0 ≤ kJ
  ·rw [if_pos c4] at H; have jR : decide (0 ≤ kJ) = true := decide_eq_true c4; clear c4
   by_cases c5 : kJ < (l0.length : Int)
   ·rw [if_pos c5] at H; have oW : decide (kJ < (l0.length : Int)) = true := decide_eq_true c5; clear c5; have H' := af.mk H; clear H
    go_enter Try.func91, Try.ntmps91
    go_wp2_with (first | ((with_reducible refine aZ (f := 99) rfl ?_); refine dG (some 7) rfl rfl Try.func99 (by kernel_rfl) rfl #[.slice A0 l0.length c0, .func (.func 100) #[] #[]] rfl (by (try simp only [List.map_toArray, List.map_cons, List.map_nil]); first | done | rfl | (simp only [List.length_drop, List.length_take]; rfl)) ?_; (with_reducible refine (dW.calls k _ _ l0 kJ _ ?dQ ?fC A2.out).mono ?_); (case dQ => repeat (first | exact HR0.out | (with_reducible refine Kd.dB ?_ _) | (with_reducible refine Kd.dC ?_ _) | (with_reducible refine Kd.eD ?_))); (case fC => exact HC0.out); rintro e w' ⟨rfl, ⟨nd, rfl⟩⟩; refine ⟨_, rfl, ?_⟩; have Vk : 0 ≤ (kJ : Int) := of_decide_eq_true (by first | (with_reducible assumption) | assumption); have Vl : kJ < (l0.length : Int) := of_decide_eq_true (by first | (with_reducible assumption) | assumption); obtain ⟨akD, aiW, Vm⟩ := Kd.cZ HR0.out kJ Vk Vl; cases aiW; replace Vk := eq_true Vk; replace Vl := eq_true Vl))
    go_loopg [4, 5] k (fun kq v4 v5 w' => ∃ (fD : Int) (eu : Int), v4 = .int .i64 fD ∧ v5 = .int .u32 eu ∧ af (dD.l0 kq fD eu = some r) ∧ af (kq ≤ k) ∧ bF w w')
    case atStart => exact ⟨(wrap64 (32 * kJ)), (rd l0 kJ), (by first | rfl | (simp; done) | (simp [*]; done) | (simp; omega)), (by first | rfl | (simp; done) | (simp [*]; done) | (simp; omega)), H', ⟨Nat.le_refl _⟩, by repeat (first | exact bF.refl _ | apply bF.step)⟩
    case round =>
     clear H'
     try clear p2
     try clear c3
     try clear ky
     try clear p3
     try clear q3
     try clear hx3
     try clear c4
     try clear jR
     try clear c5
     try clear oW
     try clear Vm
     try clear Vk
     try clear Vl
     obtain ⟨fD, eu, rfl, rfl, HA, HK1, ⟨m1, rfl⟩⟩ := hrel
     cases gk with
     | zero => exact absurd HA.out (by simp [dD.l0])
     | succ k1 =>
      have H := HA.out; clear HA; simp only [dD.l0] at H
      by_cases c6 : (Go.bits .and .u32 eu 1) = 0
      ·rw [if_pos c6] at H; have oC : ((Go.bits .and .u32 eu 1) == 0) = true := beq_iff_eq.mpr c6; have Dq : ((Go.bits .and .u32 eu 1) != 0) = false := bne_eq_false_iff_eq.mpr c6; clear c6; have H' := af.mk H; clear H; go_wp2
       go_roundg k1
       case measure => have := HK1.out; omega
       case rel => exact ⟨(wrap64 (fD + 1)), (eu / 2), (by first | rfl | (simp; done) | (simp [*]; done) | (simp; omega)), (by first | rfl | (simp; done) | (simp [*]; done) | (simp; omega)), H', ⟨by have := HK1.out; omega⟩, by repeat (first | exact bF.refl _ | apply bF.step)⟩
      ·rw [if_neg c6] at H; have oC : ((Go.bits .and .u32 eu 1) == 0) = false := beq_eq_false_iff_ne.mpr c6; have Dq : ((Go.bits .and .u32 eu 1) != 0) = true := bne_iff_ne.mpr c6; obtain rfl := Option.some.inj H; go_wp2; go_ret; exact ⟨by first | rfl | (simp; done) | (simp [*]; done), by repeat (first | exact bF.refl _ | apply bF.step)⟩
   ·rw [if_neg c5] at H; exact absurd H (by simp)
  ·rw [if_neg c4] at H; exact absurd H (by simp)
def mX.f (k : Nat) (l0 : List Int) : Option (List Int) := bZ.f k l0
set_option maxHeartbeats 8000000 in
set_option maxRecDepth 100000 in
theorem mX.calls (k : Nat) (P0_ : Nat → Prop) (A0 : Option Addr) (c0 : Nat) (l0 : List Int) (r : List Int) (w : World) (hs0 : Kd.V (Kd.int .u32) 73 w w.heap.size (fun k_ => P0_ k_) (.slice A0 l0.length c0) l0) (h : mX.f k l0 = some r) :
 Calls Try.prog 101 #[.func (.func 58) #[] #[], .slice A0 l0.length c0] w fun e w' => ∃ v0_ : Value, e = .returned (v0_) ∧ Kd.V (Kd.int .u32) 73 w' w.heap.size (fun k_ => (P0_ k_ ∨ w.heap.size ≤ k_)) v0_ r ∧ Below w.heap.size w w' := by
 have HS := af.mk hs0; have HH := af.mk (show bZ.f k l0 = some r from h); clear hs0 h
 go_enter Try.func101, Try.ntmps101
 go_wp2_with (go_at_call 58; with_reducible refine (bZ.calls k P0_ A0 c0 l0 r _ HS.out HH.out).mono ?_; rintro e w1 ⟨v0, rfl, hV, hB⟩; replace hV := af.mk hV; replace hB := af.mk hB); go_ret; exact ⟨_, rfl, hV.out, hB.out⟩
end Go.Proofs.Ytkgeihbcikiedaa.P
