/- The contracts of nat_Nat_trim, slipstickref01_Word, slipstickref01_Bit, slipstickref01_Parts, slipsticklaw18_Words that are used here, at all inputs where their Lean functions tell a result; cut out of what a changed copy of the kit's print wrote. -/
import Derived.Test.YtkgeihbcikiedaaPx0
namespace Go.Proofs.Ytkgeihbcikiedaa.P
open Go.RowKit Go.Proofs.YtkgeihbcikiedaaW.PrintWords Go.Proofs.YtkgeihbcikiedaaW.PrintLast Go.Proofs.YtkgeihbcikiedaaW.PrintMore
attribute [local go_sem] eU eX fU fV dX dY eZ fo
set_option linter.unusedVariables false
set_option linter.unusedSimpArgs false
def bZ.l0 : Nat → List Int → Int → Option (List Int)
 | 0, _, _ => none
 | k + 1, x0, x3 => if x3 > 0 then (if 0 ≤ (wrap64 (x3 - 1)) then (if (wrap64 (x3 - 1)) < (x0.length : Int) then (if (rd x0 (wrap64 (x3 - 1))) = 0 then (bZ.l0 k x0 (wrap64 (x3 - 1))) else (if 0 ≤ x3 then (if x3 ≤ (x0.length : Int) then (some (x0.take (x3 : Int).toNat)) else (none)) else (none))) else (none)) else (none)) else (if 0 ≤ x3 then (if x3 ≤ (x0.length : Int) then (some (x0.take (x3 : Int).toNat)) else (none)) else (none))
def bZ.f (k : Nat) (l0 : List Int) : Option (List Int) := bZ.l0 k l0 (l0.length : Int)
set_option maxHeartbeats 8000000 in
set_option maxRecDepth 100000 in
theorem bZ.calls (k : Nat) (P0_ : Nat → Prop) (A0 : Option Addr) (c0 : Nat) (l0 : List Int) (r : List Int) (w : World) (hs0 : Kd.V (Kd.int .u32) 73 w w.heap.size (fun k_ => P0_ k_) (.slice A0 l0.length c0) l0) (h : bZ.f k l0 = some r) :
 Calls Try.prog 58 #[.slice A0 l0.length c0] w fun e w' => ∃ v0_ : Value, e = .returned (v0_) ∧ Kd.V (Kd.int .u32) 73 w' w.heap.size (fun k_ => (P0_ k_ ∨ w.heap.size ≤ k_)) v0_ r ∧ Below w.heap.size w w' := by
 have HO0 := af.mk (show Kd.V (Kd.int .u32) 73 w w.heap.size (fun k_ => (P0_ k_ ∨ w.heap.size ≤ k_)) (.slice A0 l0.length c0) l0 from Kd.iB hs0 (fun k_ hk => .inl hk)); have HB := af.mk (Below.refl w.heap.size w); have H : (bZ.l0 k l0 (l0.length : Int)) = some r := h; clear h; have H' := af.mk H; clear H
 go_enter Try.func58, Try.ntmps58
 go_wp2
 go_loopg [3] k (fun kq v3 w' => ∃ (dH : Int), v3 = .int .i64 dH ∧ af (bZ.l0 kq l0 dH = some r) ∧ af (kq ≤ k) ∧ af (Kd.V (Kd.int .u32) 73 w' w.heap.size (fun k_ => (P0_ k_ ∨ w.heap.size ≤ k_)) (.slice A0 l0.length c0) l0) ∧ af (Below w.heap.size w w'))
 case atStart => exact ⟨((l0.length : Int)), (by first | rfl | (simp; done) | (simp [*]; done) | (simp; omega)), H', ⟨Nat.le_refl _⟩, ⟨by (with_reducible repeat (first | apply Kd.jg | apply Kd.jh | apply Kd.kz)); exact HO0.out⟩, ⟨by repeat (first | (with_reducible first | exact HB.out | apply ai | apply ah | apply aj) | exact HB.out)⟩⟩
 case round =>
  clear H'; obtain ⟨dH, rfl, HA, HK1, sJ, HB⟩ := hrel
  cases gk with
  | zero => exact absurd HA.out (by simp [bZ.l0])
  | succ k1 =>
   have H := HA.out; clear HA; simp only [bZ.l0] at H
   by_cases c2 : dH > 0
   ·rw [if_pos c2] at H; have CJ : decide (0 < dH) = true := decide_eq_true c2; clear c2
    obtain ⟨ji3, l8⟩ : ∃ j_ : Int, (wrap64 (dH - 1)) = j_ := ⟨_, rfl⟩
    replace H : (if 0 ≤ (ji3) then (if (ji3) < (l0.length : Int) then (if (rd l0 (ji3)) = 0 then (bZ.l0 k1 l0 ji3) else (if 0 ≤ dH then (if dH ≤ (l0.length : Int) then (some (l0.take (dH : Int).toNat)) else (none)) else (none))) else (none)) else (none)) = some r := by first | (rw [l8] at H; exact H) | (simp only [l8] at H ⊢; exact H)
    have abE : (IntKind.i64.wrap (dH - 1)) = ji3 := (aU _).trans l8
    by_cases c4 : 0 ≤ (ji3)
    ·rw [if_pos c4] at H; have jR : decide (0 ≤ (ji3)) = true := decide_eq_true c4; clear c4
     by_cases c5 : (ji3) < (l0.length : Int)
     ·rw [if_pos c5] at H; have oW : decide ((ji3) < (l0.length : Int)) = true := decide_eq_true c5; clear c5
      by_cases c6 : (rd l0 (ji3)) = 0
      ·rw [if_pos c6] at H; have oC : ((rd l0 (ji3)) == 0) = true := beq_iff_eq.mpr c6; have Dq : ((rd l0 (ji3)) != 0) = false := bne_eq_false_iff_eq.mpr c6; clear c6; have H' := af.mk H; clear H; have KL : 0 ≤ ((ji3) : Int) := of_decide_eq_true (by first | (with_reducible assumption) | assumption); have KM : (ji3) < (l0.length : Int) := of_decide_eq_true (by first | (with_reducible assumption) | assumption); obtain ⟨M9, aa9, V3⟩ := Kd.cZ (Kd.jl sJ.out).2.2 (ji3) KL KM; cases aa9; replace KL := eq_true KL; replace KM := eq_true KM; go_wp2
       go_roundg k1
       case measure => have := HK1.out; omega
       case rel => exact ⟨(ji3), (by first | rfl | (simp; done) | (simp only [← l8] <;> (first | rfl | simp)) | (simp [*]; done) | (simp; omega)), H', ⟨by have := HK1.out; omega⟩, ⟨by (with_reducible repeat (first | apply Kd.jg | apply Kd.jh | apply Kd.kz)); exact sJ.out⟩, ⟨by repeat (first | (with_reducible first | exact HB.out | apply ai | apply ah | apply aj) | exact HB.out)⟩⟩
      ·rw [if_neg c6] at H; have oC : ((rd l0 (ji3)) == 0) = false := beq_eq_false_iff_ne.mpr c6; have Dq : ((rd l0 (ji3)) != 0) = true := bne_iff_ne.mpr c6
       by_cases c7 : 0 ≤ dH
       ·rw [if_pos c7] at H; have Om := eq_true c7; have Oo : decide (0 ≤ dH) = true := decide_eq_true c7; clear c7
        by_cases c8 : dH ≤ (l0.length : Int)
        ·rw [if_pos c8] at H; have kQ := eq_true c8; have IJ : decide (dH ≤ (l0.length : Int)) = true := decide_eq_true c8; clear c8
         obtain ⟨y102, hy102⟩ : ∃ y_ : List Int, y_ = (l0.take (dH : Int).toNat) := ⟨_, rfl⟩
         replace H : (some y102) = some r := by first | (rw [hy102]; with_reducible exact H) | (have H2_ := (Option.bind_some _ _).symm.trans H; rw [hy102]; with_reducible exact H2_) | (have H2_ := (Option.bind_some _ _).symm.trans H; with_reducible exact H2_) | with_reducible exact H | (rw [hy102]; exact H) | exact H
         have XM := af.mk hy102; clear hy102; obtain rfl := Option.some.inj H; have KL : 0 ≤ ((ji3) : Int) := of_decide_eq_true (by first | (with_reducible assumption) | assumption); have KM : (ji3) < (l0.length : Int) := of_decide_eq_true (by first | (with_reducible assumption) | assumption); obtain ⟨M9, aa9, V3⟩ := Kd.cZ (Kd.jl sJ.out).2.2 (ji3) KL KM; cases aa9; replace KL := eq_true KL; replace KM := eq_true KM; have q9 : (dH : Int) ≤ ((l0.length : Int) : Int) := of_decide_eq_true (by first | (with_reducible assumption) | assumption); obtain ⟨i09, aeX, _, aj3, _⟩ := info_parts yE; have SA : l0.length ≤ c0 := (Kd.jl sJ.out).2.1; have hC9 : Kd.F (Kd.int .u32) _ _ (some M9) l0.length l0 := (Kd.E9 (base := w.heap.size) sJ.out).2.2; have aeY := LU (P := Try.prog) 67 73 .i64 Try.underlying67 aeX (some M9) l0.length c0 dH (of_decide_eq_true (by first | (with_reducible assumption) | assumption)) q9 SA; have hr9 := Kd.yC (m := (dH : Int).toNat) hC9 (by omega)
         have hy9 : y102.length = (dH : Int).toNat := (by rw [XM.out, List.length_take]; omega)
         rw [← XM.out] at hr9; rw [← hy9] at aeY; have aeZ := af.mk (show Kd.V (Kd.int .u32) 73 _ w.heap.size _ (.slice (some M9) y102.length y102.length) y102 from Kd.vQ (by omega) hr9); have ak8 := af.mk (show y102.length ≤ y102.length from by omega); clear hr9 hC9 SA aeX aj3; have KY9 := af.mk hy9; clear hy9; replace q9 := eq_true q9; go_wp2; go_ret; exact ⟨_, by first | rfl | (simp [aD, aG] <;> rfl) | (simp only [← l8]; first | rfl | (simp [aD, aG] <;> rfl)) | (simp [*, aD, aG] <;> rfl), by (with_reducible repeat (first | apply Kd.jg | apply Kd.jh | apply Kd.kz)); exact aeZ.out, by repeat (first | (with_reducible first | exact HB.out | apply ai | apply ah | apply aj) | exact HB.out)⟩
        ·rw [if_neg c8] at H; exact absurd H (by simp)
       ·rw [if_neg c7] at H; exact absurd H (by simp)
     ·rw [if_neg c5] at H; exact absurd H (by simp)
    ·rw [if_neg c4] at H; exact absurd H (by simp)
   ·rw [if_neg c2] at H; have CJ : decide (0 < dH) = false := decide_eq_false c2; clear c2
    by_cases c10 : 0 ≤ dH
    ·rw [if_pos c10] at H; have rW := eq_true c10; have Fg : decide (0 ≤ dH) = true := decide_eq_true c10; clear c10
     by_cases c11 : dH ≤ (l0.length : Int)
     ·rw [if_pos c11] at H; have kK := eq_true c11; have wZ : decide (dH ≤ (l0.length : Int)) = true := decide_eq_true c11; clear c11
      obtain ⟨KN, Ip⟩ : ∃ y_ : List Int, y_ = (l0.take (dH : Int).toNat) := ⟨_, rfl⟩
      replace H : (some KN) = some r := by first | (rw [Ip]; with_reducible exact H) | (have H2_ := (Option.bind_some _ _).symm.trans H; rw [Ip]; with_reducible exact H2_) | (have H2_ := (Option.bind_some _ _).symm.trans H; with_reducible exact H2_) | with_reducible exact H | (rw [Ip]; exact H) | exact H
      have XN := af.mk Ip; clear Ip; obtain rfl := Option.some.inj H; have q12 : (dH : Int) ≤ ((l0.length : Int) : Int) := of_decide_eq_true (by first | (with_reducible assumption) | assumption); obtain ⟨aim, FO, _, PG, _⟩ := info_parts yE; have Na : l0.length ≤ c0 := (Kd.jl sJ.out).2.1; have ae0 : Kd.F (Kd.int .u32) _ _ A0 l0.length l0 := (Kd.E9 (base := w.heap.size) sJ.out).2.2; have Jb := LU (P := Try.prog) 67 73 .i64 Try.underlying67 FO A0 l0.length c0 dH (of_decide_eq_true (by first | (with_reducible assumption) | assumption)) q12 Na; have FP := Kd.yC (m := (dH : Int).toNat) ae0 (by omega)
      have NG : KN.length = (dH : Int).toNat := (by rw [XN.out, List.length_take]; omega)
      rw [← XN.out] at FP; rw [← NG] at Jb; have ae1 := af.mk (show Kd.V (Kd.int .u32) 73 _ w.heap.size _ (.slice A0 KN.length KN.length) KN from Kd.vQ (by omega) FP); have ak9 := af.mk (show KN.length ≤ KN.length from by omega); clear FP ae0 Na FO PG; have amM := af.mk NG; clear NG; replace q12 := eq_true q12; go_wp2; go_ret; exact ⟨_, by first | rfl | (simp [aD, aG] <;> rfl) | (simp [*, aD, aG] <;> rfl), by (with_reducible repeat (first | apply Kd.jg | apply Kd.jh | apply Kd.kz)); exact ae1.out, by repeat (first | (with_reducible first | exact HB.out | apply ai | apply ah | apply aj) | exact HB.out)⟩
     ·rw [if_neg c11] at H; exact absurd H (by simp)
    ·rw [if_neg c10] at H; exact absurd H (by simp)
def bW.l0 : Nat → Int → List Bool → Option (List Bool)
 | 0, _, _ => none
 | k + 1, x0, x3 => if x0 > 0 then (if x3.length < 140737488355328 then (bW.l0 k (IntKind.u64.wrap (Int.tdiv x0 2)) (x3 ++ [((Int.tmod x0 2) == 1)])) else (none)) else (some x3)
def bW.f (k : Nat) (a0 : Int) : Option (List Bool) := bW.l0 k a0 (([] : List Bool))
set_option maxHeartbeats 8000000 in
set_option maxRecDepth 100000 in
theorem bW.calls (k : Nat) (a0 : Int) (r : List Bool) (w : World) (h : bW.f k a0 = some r) :
 Calls Try.prog 11 #[.int .u64 a0] w fun e w' => ∃ v0_ : Value, e = .returned (v0_) ∧ Kd.R Kd.bool 4 w' w.heap.size (fun _ => True) v0_ r ∧ Below w.heap.size w w' := by
 have HB := af.mk (Below.refl w.heap.size w); have H : (bW.l0 k a0 (([] : List Bool))) = some r := h; clear h
 obtain ⟨y112, hy112⟩ : ∃ y_ : List Bool, y_ = (([] : List Bool)) := ⟨_, rfl⟩
 replace H : (bW.l0 k a0 y112) = some r := by first | (rw [hy112]; with_reducible exact H) | (have H2_ := (Option.bind_some _ _).symm.trans H; rw [hy112]; with_reducible exact H2_) | (have H2_ := (Option.bind_some _ _).symm.trans H; with_reducible exact H2_) | with_reducible exact H | (rw [hy112]; exact H) | exact H
 have XO := af.mk hy112; clear hy112; have H' := af.mk H; clear H
 go_enter Try.func11, Try.ntmps11
 go_wp2_with (first | ((with_reducible refine bS (N := 4) rfl ?_); refine Kd.oz Kd.bool _ 4 ?hg (N := 4) ?hd (xs := ([] : List Bool)) (inner := []) (ok := fun _ => True) (okp := fun _ => True) ?hr ?hp (fun _ hk => hk) trivial (Below.refl _ _) (Nat.le_refl _) (by simp) ?_; (case hd => rfl); (case hg => rfl); (case hr => first | (go_simp; done) | (go_simp; rfl)); (case hp => exact (eF.none _ _)); intro amN w2 ho3 hb hg_ hnew_; clear hg_ hnew_; (first | rw [← XO.out] at ho3 | (simp only [Int.reduceToNat] at ho3; rw [← XO.out] at ho3)); have n0_ := af.mk (Kd.fA ho3 (az (by repeat (first | (with_reducible first | exact HB.out | apply ai | apply ah | apply aj) | exact HB.out)))); have n1_ := af.mk (aA (by repeat (first | (with_reducible first | exact HB.out | apply ai | apply ah | apply aj) | exact HB.out)) hb); clear HB; have ae2 := n0_; have HB := n1_; clear n0_ n1_; clear hb ho3))
 go_loopg [0, 3] k (fun kq v0 v3 w' => ∃ (Bj : Int) (dH : List Bool), v0 = .int .u64 Bj ∧ af (bW.l0 kq Bj dH = some r) ∧ af (kq ≤ k) ∧ af (Kd.R Kd.bool 4 w' w.heap.size (fun _ => True) v3 dH) ∧ af (Below w.heap.size w w'))
 case atStart => exact ⟨(a0), (y112), (by first | rfl | (simp; done) | (simp [*]; done) | (simp; omega)), H', ⟨Nat.le_refl _⟩, ⟨by (with_reducible repeat (first | apply Kd.aW | apply Kd.aX | apply Kd.bn)); exact ae2.out⟩, ⟨by repeat (first | (with_reducible first | exact HB.out | apply ai | apply ah | apply aj) | exact HB.out)⟩⟩
 case round =>
  clear H'
  try clear c1
  try clear p2
  obtain ⟨Bj, dH, rfl, HA, HK1, iI, HB⟩ := hrel
  cases gk with
  | zero => exact absurd HA.out (by simp [bW.l0])
  | succ k1 =>
   have H := HA.out; clear HA; simp only [bW.l0] at H
   by_cases c4 : Bj > 0
   ·rw [if_pos c4] at H; have jR : decide (0 < Bj) = true := decide_eq_true c4; clear c4
    by_cases c5 : dH.length < 140737488355328
    ·rw [if_pos c5] at H; have aj4 := af.mk c5; clear c5
     obtain ⟨y115, hy115⟩ : ∃ y_ : List Bool, y_ = (dH ++ [((Int.tmod Bj 2) == 1)]) := ⟨_, rfl⟩
     replace H : (bW.l0 k1 (IntKind.u64.wrap (Int.tdiv Bj 2)) y115) = some r := by first | (rw [hy115]; with_reducible exact H) | (have H2_ := (Option.bind_some _ _).symm.trans H; rw [hy115]; with_reducible exact H2_) | (have H2_ := (Option.bind_some _ _).symm.trans H; with_reducible exact H2_) | with_reducible exact H | (rw [hy115]; exact H) | exact H
     have ae3 := af.mk hy115; clear hy115; have H' := af.mk H; clear H; go_wp2_with (first | ((with_reducible refine gy (b := .append) (xs := #[.tmp 7, .tmp 11]) rfl ?_); at_builtin; refine Kd.kP Kd.bool (w0 := w) w.heap.size rfl (.tmp 7) (.tmp 11) 38 4 (.bool false) 1 rfl Try.underlying38 BN rfl (by decide) (by omega) u3 dH ((Int.tmod Bj 2) == 1) [.bool ((Int.tmod Bj 2) == 1)] (fun _ => True) (fun _ => False) rfl rfl ?aP (fun _ hk => hk.elim) ?aF ?aO ?aB ?aS ?aL ?_; (case aP => exact rfl); (case aB => exact (by repeat (first | (with_reducible first | exact HB.out | apply ai | apply ah | apply aj) | exact HB.out))); (case aF => exact (fun _ _ => trivial)); (case aO => exact (by (with_reducible repeat (first | apply Kd.aW | apply Kd.aX | apply Kd.bn)); exact iI.out)); (case aS => exact (az (by repeat (first | (with_reducible first | exact HB.out | apply ai | apply ah | apply aj) | exact HB.out)))); (case aL => have := aj4.out; omega); intro amO w6 ho hb hg hat; rw [← ae3.out] at ho; have n0_ := af.mk (hb); have n1_ := af.mk (ho); clear HB; clear iI; have HB := n0_; have ae4 := n1_; clear n0_ n1_; clear ho hb hg hat))
     go_roundg k1
     case measure => have := HK1.out; omega
     case rel => exact ⟨(IntKind.u64.wrap (Int.tdiv Bj 2)), (y115), (by first | rfl | (simp; done) | (simp [*]; done) | (simp; omega)), H', ⟨by have := HK1.out; omega⟩, ⟨by (with_reducible repeat (first | apply Kd.aW | apply Kd.aX | apply Kd.bn)); exact ae4.out⟩, ⟨by repeat (first | (with_reducible first | exact HB.out | apply ai | apply ah | apply aj) | exact HB.out)⟩⟩
    ·rw [if_neg c5] at H; exact absurd H (by simp)
   ·rw [if_neg c4] at H; have jR : decide (0 < Bj) = false := decide_eq_false c4; clear c4; obtain rfl := Option.some.inj H; go_wp2; go_ret; exact ⟨_, by first | rfl | (simp [aD, aG] <;> rfl) | (simp [*, aD, aG] <;> rfl), by (with_reducible repeat (first | apply Kd.aW | apply Kd.aX | apply Kd.bn)); exact iI.out, by repeat (first | (with_reducible first | exact HB.out | apply ai | apply ah | apply aj) | exact HB.out)⟩
def fZ.f (l0 : List Bool) (a1 : Int) : Option (Bool) := if a1 ≥ 0 then (if a1 < (l0.length : Int) then (if 0 ≤ a1 then (some (lI false l0 a1)) else (none)) else (some false)) else (some false)
set_option maxHeartbeats 8000000 in
set_option maxRecDepth 100000 in
theorem fZ.calls (A0 : Option Addr) (c0 : Nat) (l0 : List Bool) (a1 : Int) (r : Bool) (w : World) (hr0 : Kd.C Kd.bool w A0 l0.length l0) (hc0 : l0.length ≤ c0) (h : fZ.f l0 a1 = some r) :
 Calls Try.prog 50 #[.slice A0 l0.length c0, .int .i64 a1] w fun e w' => e = .returned (.bool r) ∧ bF w w' := by
 have HR0 := af.mk hr0; have HC0 := af.mk hc0; clear hr0 hc0; have H : (if a1 ≥ 0 then (if a1 < (l0.length : Int) then (if 0 ≤ a1 then (some (lI false l0 a1)) else (none)) else (some false)) else (some false)) = some r := h; clear h
 by_cases c3 : a1 ≥ 0
 ·rw [if_pos c3] at H; have ky : decide (0 ≤ a1) = true := decide_eq_true c3; clear c3
  by_cases c4 : a1 < (l0.length : Int)
  ·rw [if_pos c4] at H; have jR : decide (a1 < (l0.length : Int)) = true := decide_eq_true c4; clear c4
   by_cases c5 : 0 ≤ a1
   ·rw [if_pos c5] at H; have oW : decide (0 ≤ a1) = true := decide_eq_true c5; clear c5; obtain rfl := Option.some.inj H; have aba : 0 ≤ (a1 : Int) := of_decide_eq_true (by first | (with_reducible assumption) | assumption); have abb : a1 < (l0.length : Int) := of_decide_eq_true (by first | (with_reducible assumption) | assumption); obtain ⟨ala, e118, ahK⟩ := Kd.mJ HR0.out a1 aba abb; cases e118; replace aba := eq_true aba; replace abb := eq_true abb
    go_enter Try.func50, Try.ntmps50
    go_wp2; go_ret; exact ⟨by first | rfl | (simp; done) | (simp [*]; done), by repeat (first | exact bF.refl _ | apply bF.step)⟩
   ·rw [if_neg c5] at H; exact absurd H (by simp)
  ·rw [if_neg c4] at H; have jR : decide (a1 < (l0.length : Int)) = false := decide_eq_false c4; clear c4; obtain rfl := Option.some.inj H
   go_enter Try.func50, Try.ntmps50
   go_wp2; go_ret; exact ⟨by first | rfl | (simp; done) | (simp [*]; done), by repeat (first | exact bF.refl _ | apply bF.step)⟩
 ·rw [if_neg c3] at H; have ky : decide (0 ≤ a1) = false := decide_eq_false c3; clear c3; obtain rfl := Option.some.inj H
  go_enter Try.func50, Try.ntmps50
  go_wp2; go_ret; exact ⟨by first | rfl | (simp; done) | (simp [*]; done), by repeat (first | exact bF.refl _ | apply bF.step)⟩
mutual
def aR.l0 : Nat → List Bool → List Int → Int → Option (List Int)
 | 0, _, _, _ => none
 | k + 1, x0, x3, x4 => if x4 < (x0.length : Int) then (aR.l1 k x0 x3 x4 0 31) else (some x3)
def aR.l1 : Nat → List Bool → List Int → Int → Int → Int → Option (List Int)
 | 0, _, _, _, _, _ => none
 | k + 1, x0, x3, x4, x5, x6 => if x6 ≥ 0 then ((fZ.f x0 (wrap64 (x4 + x6))).bind fun V4 => (if V4 = true then (aR.l1 k x0 x3 x4 ((((x5 * 2) % 4294967296) + 1) % 4294967296) (wrap64 (x6 - 1))) else (aR.l1 k x0 x3 x4 ((x5 * 2) % 4294967296) (wrap64 (x6 - 1))))) else (if x3.length < 35184372088832 then (aR.l0 k x0 (x3 ++ [x5]) (wrap64 (x4 + 32))) else (none))
end
def aR.f (k : Nat) (l0 : List Bool) : Option (List Int) := aR.l0 k l0 (([] : List Int)) 0
set_option maxHeartbeats 8000000 in
set_option maxRecDepth 100000 in
theorem aR.calls (k : Nat) (A0 : Option Addr) (c0 : Nat) (l0 : List Bool) (r : List Int) (w : World) (hr0 : Kd.C Kd.bool w A0 l0.length l0) (hc0 : l0.length ≤ c0) (h : aR.f k l0 = some r) :
 Calls Try.prog 21 #[.slice A0 l0.length c0] w fun e w' => ∃ v0_ : Value, e = .returned (v0_) ∧ Kd.R (Kd.int .u32) 73 w' w.heap.size (fun _ => True) v0_ r ∧ Below w.heap.size w w' := by
 have HR0 := af.mk hr0; have HC0 := af.mk hc0; clear hr0 hc0; have HB := af.mk (Below.refl w.heap.size w); have H : (aR.l0 k l0 (([] : List Int)) 0) = some r := h; clear h
 obtain ⟨ae5, Iq⟩ : ∃ y_ : List Int, y_ = (([] : List Int)) := ⟨_, rfl⟩
 replace H : (aR.l0 k l0 ae5 0) = some r := by first | (rw [Iq]; with_reducible exact H) | (have H2_ := (Option.bind_some _ _).symm.trans H; rw [Iq]; with_reducible exact H2_) | (have H2_ := (Option.bind_some _ _).symm.trans H; with_reducible exact H2_) | with_reducible exact H | (rw [Iq]; exact H) | exact H
 have XP := af.mk Iq; clear Iq; have H' := af.mk H; clear H
 go_enter Try.func21, Try.ntmps21
 go_wp2_with (first | ((with_reducible refine bS (N := 7) rfl ?_); refine Kd.oz (Kd.int .u32) _ 73 ?hg (N := 7) ?hd (xs := ([] : List Int)) (inner := []) (ok := fun _ => True) (okp := fun _ => True) ?hr ?hp (fun _ hk => hk) trivial (Below.refl _ _) (Nat.le_refl _) (by simp) ?_; (case hd => rfl); (case hg => rfl); (case hr => first | (go_simp; done) | (go_simp; rfl)); (case hp => exact (eF.none _ _)); intro amP w2 ho3 hb hg_ hnew_; clear hg_ hnew_; (first | rw [← XP.out] at ho3 | (simp only [Int.reduceToNat] at ho3; rw [← XP.out] at ho3)); have n0_ := af.mk (Kd.fA ho3 (az (by repeat (first | (with_reducible first | exact HB.out | apply ai | apply ah | apply aj) | exact HB.out)))); have n1_ := af.mk (aA (by repeat (first | (with_reducible first | exact HB.out | apply ai | apply ah | apply aj) | exact HB.out)) hb); clear HB; have ae6 := n0_; have HB := n1_; clear n0_ n1_; clear hb ho3))
 go_loopg [3, 4] k (fun kq v3 v4 w' => ∃ (dH : List Int) (fD : Int), v4 = .int .i64 fD ∧ af (aR.l0 kq l0 dH fD = some r) ∧ af (kq ≤ k) ∧ af (Kd.R (Kd.int .u32) 73 w' w.heap.size (fun _ => True) v3 dH) ∧ af (Below w.heap.size w w'))
 case atStart => exact ⟨(ae5), (0), (by first | rfl | (simp; done) | (simp [*]; done) | (simp; omega)), H', ⟨Nat.le_refl _⟩, ⟨by (with_reducible repeat (first | apply Kd.aW | apply Kd.aX | apply Kd.bn)); exact ae6.out⟩, ⟨by repeat (first | (with_reducible first | exact HB.out | apply ai | apply ah | apply aj) | exact HB.out)⟩⟩
 case round =>
  clear H'
  try clear c2
  try clear p2
  obtain ⟨dH, fD, rfl, HA, HK1, iI, HB⟩ := hrel
  cases gk with
  | zero => exact absurd HA.out (by simp [aR.l0])
  | succ k1 =>
   have H := HA.out; clear HA; simp only [aR.l0] at H
   by_cases c4 : fD < (l0.length : Int)
   ·rw [if_pos c4] at H; have jR : decide (fD < (l0.length : Int)) = true := decide_eq_true c4; clear c4; have H' := af.mk H; clear H; go_wp2
    go_loopg [5, 6] k1 (fun kq v5 v6 w' => ∃ (og : Int) (iX : Int), v5 = .int .u32 og ∧ v6 = .int .i64 iX ∧ af (aR.l1 kq l0 dH fD og iX = some r) ∧ af (kq ≤ k1) ∧ af (Kd.R (Kd.int .u32) 73 w' w.heap.size (fun _ => True) u3 dH) ∧ af (Below w.heap.size w w'))
    case atStart => exact ⟨(0), (31), (by first | rfl | (simp; done) | (simp [*]; done) | (simp; omega)), (by first | rfl | (simp; done) | (simp [*]; done) | (simp; omega)), H', ⟨Nat.le_refl _⟩, ⟨by (with_reducible repeat (first | apply Kd.aW | apply Kd.aX | apply Kd.bn)); exact iI.out⟩, ⟨by repeat (first | (with_reducible first | exact HB.out | apply ai | apply ah | apply aj) | exact HB.out)⟩⟩
    case round =>
     clear H'
     try clear c2
     try clear p2
     try clear c4
     try clear jR
     try clear p2
     obtain ⟨og, iX, rfl, rfl, HA, HK2, iI, HB⟩ := hrel
     cases gk with
     | zero => exact absurd HA.out (by simp [aR.l1])
     | succ k2 =>
      have H := HA.out; clear HA; simp only [aR.l1] at H
      by_cases c5 : iX ≥ 0
      ·rw [if_pos c5] at H; have oW : decide (0 ≤ iX) = true := decide_eq_true c5; clear c5; replace H := Option.bind_eq_some_iff.mp H; obtain ⟨V4, A60, H⟩ := H; replace H : (if V4 = true then (aR.l1 k2 l0 dH fD ((((og * 2) % 4294967296) + 1) % 4294967296) (wrap64 (iX - 1))) else (aR.l1 k2 l0 dH fD ((og * 2) % 4294967296) (wrap64 (iX - 1)))) = some r := H; have A6 := af.mk A60; clear A60
       by_cases c7 : V4 = true
       ·subst c7
        have H1 : (aR.l1 k2 l0 dH fD ((((og * 2) % 4294967296) + 1) % 4294967296) (wrap64 (iX - 1))) = some r := by rw [if_pos rfl] at H; exact H
        clear H; have H := H1; clear H1; have H' := af.mk H; clear H; go_wp2_with (first | ((with_reducible refine aZ (f := 50) rfl ?_); refine dG (some 24) rfl rfl Try.func50 (by kernel_rfl) rfl #[.slice A0 l0.length c0, .int .i64 (wrap64 (fD + iX))] rfl (by (try simp only [List.map_toArray, List.map_cons, List.map_nil]); first | done | rfl | (simp only [List.length_drop, List.length_take]; rfl)) ?_; (with_reducible refine (fZ.calls _ _ l0 (wrap64 (fD + iX)) true _ ?dQ ?fC A6.out).mono ?_); (case dQ => repeat (first | exact (Kd.bR HR0.out HB.out) | (with_reducible refine Kd.dB ?_ _) | (with_reducible refine Kd.dC ?_ _) | (with_reducible refine Kd.eD ?_))); (case fC => exact HC0.out); rintro e w' ⟨rfl, ⟨nd, rfl⟩⟩; refine ⟨_, rfl, ?_⟩))
        go_roundg k2
        case measure => have := HK1.out; have := HK2.out; omega
        case rel => exact ⟨((((og * 2) % 4294967296) + 1) % 4294967296), (wrap64 (iX - 1)), (by first | rfl | (simp; done) | (simp [*]; done) | (simp; omega)), (by first | rfl | (simp; done) | (simp [*]; done) | (simp; omega)), H', ⟨by have := HK1.out; have := HK2.out; omega⟩, ⟨by (with_reducible repeat (first | apply Kd.aW | apply Kd.aX | apply Kd.bn)); exact iI.out⟩, ⟨by repeat (first | (with_reducible first | exact HB.out | apply ai | apply ah | apply aj) | exact HB.out)⟩⟩
       ·replace c7 := Bool.eq_false_iff.mpr c7; subst c7
        have H1 : (aR.l1 k2 l0 dH fD ((og * 2) % 4294967296) (wrap64 (iX - 1))) = some r := by rw [if_neg (show ¬ (false = true) by decide)] at H; exact H
        clear H; have H := H1; clear H1; have H' := af.mk H; clear H; go_wp2_with (first | ((with_reducible refine aZ (f := 50) rfl ?_); refine dG (some 24) rfl rfl Try.func50 (by kernel_rfl) rfl #[.slice A0 l0.length c0, .int .i64 (wrap64 (fD + iX))] rfl (by (try simp only [List.map_toArray, List.map_cons, List.map_nil]); first | done | rfl | (simp only [List.length_drop, List.length_take]; rfl)) ?_; (with_reducible refine (fZ.calls _ _ l0 (wrap64 (fD + iX)) false _ ?dQ ?fC A6.out).mono ?_); (case dQ => repeat (first | exact (Kd.bR HR0.out HB.out) | (with_reducible refine Kd.dB ?_ _) | (with_reducible refine Kd.dC ?_ _) | (with_reducible refine Kd.eD ?_))); (case fC => exact HC0.out); rintro e w' ⟨rfl, ⟨nd, rfl⟩⟩; refine ⟨_, rfl, ?_⟩))
        go_roundg k2
        case measure => have := HK1.out; have := HK2.out; omega
        case rel => exact ⟨((og * 2) % 4294967296), (wrap64 (iX - 1)), (by first | rfl | (simp; done) | (simp [*]; done) | (simp; omega)), (by first | rfl | (simp; done) | (simp [*]; done) | (simp; omega)), H', ⟨by have := HK1.out; have := HK2.out; omega⟩, ⟨by (with_reducible repeat (first | apply Kd.aW | apply Kd.aX | apply Kd.bn)); exact iI.out⟩, ⟨by repeat (first | (with_reducible first | exact HB.out | apply ai | apply ah | apply aj) | exact HB.out)⟩⟩
      ·rw [if_neg c5] at H; have oW : decide (0 ≤ iX) = false := decide_eq_false c5; clear c5
       by_cases c8 : dH.length < 35184372088832
       ·rw [if_pos c8] at H; have aj5 := af.mk c8; clear c8
        obtain ⟨ae7, Ir⟩ : ∃ y_ : List Int, y_ = (dH ++ [og]) := ⟨_, rfl⟩
        replace H : (aR.l0 k2 l0 ae7 (wrap64 (fD + 32))) = some r := by first | (rw [Ir]; with_reducible exact H) | (have H2_ := (Option.bind_some _ _).symm.trans H; rw [Ir]; with_reducible exact H2_) | (have H2_ := (Option.bind_some _ _).symm.trans H; with_reducible exact H2_) | with_reducible exact H | (rw [Ir]; exact H) | exact H
        have ae8 := af.mk Ir; clear Ir; have H' := af.mk H; clear H; go_wp2_with (first | ((with_reducible refine gy (b := .append) (xs := #[.tmp 27, .tmp 29]) rfl ?_); at_builtin; refine Kd.kP (Kd.int .u32) (w0 := w) w.heap.size rfl (.tmp 27) (.tmp 29) 36 73 (.int .u32 0) 4 rfl Try.underlying36 yE rfl (by decide) (by omega) u3 dH og [.int .u32 og] (fun _ => True) (fun _ => False) rfl rfl ?aP (fun _ hk => hk.elim) ?aF ?aO ?aB ?aS ?aL ?_; (case aP => exact rfl); (case aB => exact (by repeat (first | (with_reducible first | exact HB.out | apply ai | apply ah | apply aj) | exact HB.out))); (case aF => exact (fun _ _ => trivial)); (case aO => exact (by (with_reducible repeat (first | apply Kd.aW | apply Kd.aX | apply Kd.bn)); exact iI.out)); (case aS => exact (az (by repeat (first | (with_reducible first | exact HB.out | apply ai | apply ah | apply aj) | exact HB.out)))); (case aL => have := aj5.out; omega); intro v124 w9 ho hb hg hat; rw [← ae8.out] at ho; have n0_ := af.mk (hb); have n1_ := af.mk (ho); clear HB; clear iI; have HB := n0_; have ae9 := n1_; clear n0_ n1_; clear ho hb hg hat))
        go_roundg k2
        case measure => have := HK1.out; have := HK2.out; omega
        case rel => exact ⟨(ae7), (wrap64 (fD + 32)), (by first | rfl | (simp; done) | (simp [*]; done) | (simp; omega)), H', ⟨by have := HK1.out; have := HK2.out; omega⟩, ⟨by (with_reducible repeat (first | apply Kd.aW | apply Kd.aX | apply Kd.bn)); exact ae9.out⟩, ⟨by repeat (first | (with_reducible first | exact HB.out | apply ai | apply ah | apply aj) | exact HB.out)⟩⟩
       ·rw [if_neg c8] at H; exact absurd H (by simp)
   ·rw [if_neg c4] at H; have jR : decide (fD < (l0.length : Int)) = false := decide_eq_false c4; clear c4; obtain rfl := Option.some.inj H; go_wp2; go_ret; exact ⟨_, by first | rfl | (simp [aD, aG] <;> rfl) | (simp [*, aD, aG] <;> rfl), by (with_reducible repeat (first | apply Kd.aW | apply Kd.aX | apply Kd.bn)); exact iI.out, by repeat (first | (with_reducible first | exact HB.out | apply ai | apply ah | apply aj) | exact HB.out)⟩
def bU.l0 : Nat → List (List Int) → List Int → Int → Int → Option ((List (List Int)))
 | 0, _, _, _, _ => none
 | k + 1, x3, x6, x7, x8 => if x8 < x7 then (if 0 ≤ x8 then (if x8 < (x6.length : Int) then ((bW.f k (rd x6 x8)).bind fun t127 => ((aR.f k t127).bind fun t130 => (if x3.length < 5864062014805 then (bU.l0 k (x3 ++ [t130]) x6 x7 (wrap64 (x8 + 1))) else (none)))) else (none)) else (none)) else (some x3)
def bU.f (k : Nat) (l0 : List Int) : Option ((List (List Int))) := bU.l0 k ([] : List (List Int)) l0 (l0.length : Int) 0
set_option maxHeartbeats 8000000 in
set_option maxRecDepth 100000 in
theorem bU.calls (k : Nat) (A0 : Option Addr) (c0 : Nat) (l0 : List Int) (r : List (List Int)) (w : World) (hr0 : Kd.C (Kd.int .u64) w A0 l0.length l0) (hc0 : l0.length ≤ c0) (h : bU.f k l0 = some r) :
 Calls Try.prog 18 #[.slice A0 l0.length c0] w fun e w' => ∃ v0_ : Value, e = .returned (v0_) ∧ Kd.S (Kd.slice 73 (Kd.int .u32)) 36 w' w.heap.size (fun _ => True) v0_ r ∧ Below w.heap.size w w' := by
 have HR0 := af.mk hr0; have HC0 := af.mk hc0; clear hr0 hc0; have HB := af.mk (Below.refl w.heap.size w); have H : (bU.l0 k ([] : List (List Int)) l0 (l0.length : Int) 0) = some r := h; clear h; have H' := af.mk H; clear H
 go_enter Try.func18, Try.ntmps18
 go_wp2
 go_loopg [3, 8] k (fun kq v3 v8 w' => ∃ (dH : List (List Int)) (je : Int), v8 = .int .i64 je ∧ af (bU.l0 kq dH l0 (l0.length : Int) je = some r) ∧ af (kq ≤ k) ∧ af (Kd.S (Kd.slice 73 (Kd.int .u32)) 36 w' w.heap.size (fun _ => True) v3 dH) ∧ af (Below w.heap.size w w'))
 case atStart => exact ⟨(([] : List (List Int))), (0), (by first | rfl | (simp; done) | (simp [*]; done) | (simp; omega)), H', ⟨Nat.le_refl _⟩, ⟨by first | exact Kd.Wy _ _ _ _ _ | exact Kd.Ps _ _ _ _ _ | exact Kd.tY _ _ _ _ _ | exact Kd.WX _ _ _ _ _ | exact Kd.qd _ _ _ _ _⟩, ⟨by repeat (first | (with_reducible first | exact HB.out | apply ai | apply ah | apply aj) | exact HB.out)⟩⟩
 case round =>
  clear H'
  try clear c1
  obtain ⟨dH, je, rfl, HA, HK1, iI, HB⟩ := hrel
  cases gk with
  | zero => exact absurd HA.out (by simp [bU.l0])
  | succ k1 =>
   have H := HA.out; clear HA; simp only [bU.l0] at H
   by_cases c2 : je < (l0.length : Int)
   ·rw [if_pos c2] at H; have CJ : decide (je < (l0.length : Int)) = true := decide_eq_true c2; clear c2
    by_cases c3 : 0 ≤ je
    ·rw [if_pos c3] at H; have ky : decide (0 ≤ je) = true := decide_eq_true c3; clear c3
     by_cases c4 : je < (l0.length : Int)
     ·rw [if_pos c4] at H; have jR : decide (je < (l0.length : Int)) = true := decide_eq_true c4; clear c4; replace H := Option.bind_eq_some_iff.mp H; obtain ⟨t127, A50, H⟩ := H; replace H : ((aR.f k1 t127).bind fun t130 => (if dH.length < 5864062014805 then (bU.l0 k1 (dH ++ [t130]) l0 (l0.length : Int) (wrap64 (je + 1))) else (none))) = some r := H; have A5 := af.mk A50; clear A50; replace H := Option.bind_eq_some_iff.mp H; obtain ⟨t130, A60, H⟩ := H; replace H : (if dH.length < 5864062014805 then (bU.l0 k1 (dH ++ [t130]) l0 (l0.length : Int) (wrap64 (je + 1))) else (none)) = some r := H; have A6 := af.mk A60; clear A60
      by_cases c7 : dH.length < 5864062014805
      ·rw [if_pos c7] at H; have Yj := af.mk c7; clear c7
       obtain ⟨afa, Iu⟩ : ∃ y_ : List (List Int), y_ = (dH ++ [t130]) := ⟨_, rfl⟩
       replace H : (bU.l0 k1 afa l0 (l0.length : Int) (wrap64 (je + 1))) = some r := by first | (rw [Iu]; with_reducible exact H) | (have H2_ := (Option.bind_some _ _).symm.trans H; rw [Iu]; with_reducible exact H2_) | (have H2_ := (Option.bind_some _ _).symm.trans H; with_reducible exact H2_) | with_reducible exact H | (rw [Iu]; exact H) | exact H
       have afb := af.mk Iu; clear Iu; have H' := af.mk H; clear H; have abd : 0 ≤ (je : Int) := of_decide_eq_true (by first | (with_reducible assumption) | assumption); have abe : je < (l0.length : Int) := of_decide_eq_true (by first | (with_reducible assumption) | assumption); obtain ⟨alb, e126, EU⟩ := Kd.cZ HR0.out je abd abe; cases e126; replace EU := (HB.out.cell (World.block_lt_of_cell? w _ EU)).trans EU; replace abd := eq_true abd; replace abe := eq_true abe; go_wp2_with (first | ((with_reducible refine aZ (f := 11) rfl ?_); refine dG (some 14) rfl rfl Try.func11 (by kernel_rfl) rfl #[.int .u64 (rd l0 je)] rfl (by (try simp only [List.map_toArray, List.map_cons, List.map_nil]); first | done | rfl | (simp only [List.length_drop, List.length_take]; rfl)) ?_; (with_reducible refine (bW.calls k1 (rd l0 je) t127 _ A5.out).mono ?_); rintro e w8 ⟨amQ, rfl, ho0, hb⟩; refine ⟨_, rfl, ?_⟩; have n0_ := af.mk (Kd.uf (by (with_reducible repeat (first | apply Kd.iJ | apply Kd.iK | apply Kd.jw)); exact iI.out) hb); have n1_ := af.mk (Kd.fA ho0 (az (by repeat (first | (with_reducible first | exact HB.out | apply ai | apply ah | apply aj) | exact HB.out)))); have n2_ := af.mk (aA (by repeat (first | (with_reducible first | exact HB.out | apply ai | apply ah | apply aj) | exact HB.out)) hb); clear iI; clear HB; have iI := n0_; have vO := n1_; have HB := n2_; clear n0_ n1_ n2_; (try clear hb); (try clear hb2); (try clear hk); (try clear hi); (try clear ho0); obtain ⟨Ao9, co9, eo9⟩ := Kd.bQ vO.out; subst eo9) | ((with_reducible refine aZ (f := 21) rfl ?_); refine dG (some 15) rfl rfl Try.func21 (by kernel_rfl) rfl #[.slice Ao9 t127.length co9] rfl (by (try simp only [List.map_toArray, List.map_cons, List.map_nil]); first | done | rfl | (simp only [List.length_drop, List.length_take]; rfl)) ?_; (with_reducible refine (aR.calls k1 _ _ t127 t130 _ ?dQ ?fC A6.out).mono ?_); (case dQ => repeat (first | exact (Kd.bY vO.out).2.2 | (with_reducible refine Kd.dB ?_ _) | (with_reducible refine Kd.dC ?_ _) | (with_reducible refine Kd.eD ?_))); (case fC => exact (Kd.bY vO.out).2.1); rintro e w10 ⟨v131, rfl, ho0, hb⟩; refine ⟨_, rfl, ?_⟩; have n0_ := af.mk (Kd.Fw (by (with_reducible repeat (first | apply Kd.iJ | apply Kd.iK | apply Kd.jw)); exact iI.out) (Kd.iN ho0) hb); have n1_ := af.mk (Kd.dE (by (with_reducible repeat (first | apply Kd.aW | apply Kd.aX | apply Kd.bn)); exact vO.out) hb); have n2_ := af.mk (Kd.fA ho0 (az (by repeat (first | (with_reducible first | exact HB.out | apply ai | apply ah | apply aj) | exact HB.out)))); have n3_ := af.mk (aA (by repeat (first | (with_reducible first | exact HB.out | apply ai | apply ah | apply aj) | exact HB.out)) hb); clear iI; clear vO; clear HB; have iI := n0_; have vO := n1_; have Nb := n2_; have HB := n3_; clear n0_ n1_ n2_ n3_; (try clear hb); (try clear hb2); (try clear hk); (try clear hi); (try clear ho0); obtain ⟨afc, Ya, SY⟩ := Kd.bQ Nb.out; subst SY) | ((with_reducible refine gy (b := .append) (xs := #[.tmp 12, .tmp 16]) rfl ?_); at_builtin; refine Kd.Fx (Kd.slice 73 (Kd.int .u32)) (w0 := w) w.heap.size rfl (.tmp 12) (.tmp 16) 29 36 (.slice none 0 0) 24 rfl Try.underlying29 QA rfl (by decide) (by omega) u3 dH t130 [.slice afc t130.length Ya] (fun _ => True) (fun k_ => some k_ = (.slice afc t130.length Ya : Value).ownBlock) rfl rfl ?aP (fun k_ hk_ => ((Kd.eG (ok' := fun k_ => ((fun _ => True)) k_ ∧ some k_ ≠ (u3 : Value).ownBlock) (Kd.qW (Nb.out) (Kd.o5 iI.out) (by decide)) (fun k_ hk => ⟨trivial, hk.2⟩))).1 k_ hk_.symm) ?aF ?aO ?aB ?aS ?aL ?_; (case aP => exact Kd.Qf (Kd.eG (Kd.kR rfl (Kd.eG (ok' := fun k_ => ((fun _ => True)) k_ ∧ some k_ ≠ (u3 : Value).ownBlock) (Kd.qW (Nb.out) (Kd.o5 iI.out) (by decide)) (fun k_ hk => ⟨trivial, hk.2⟩))) (fun _ h_ => h_))); (case aB => exact (by repeat (first | (with_reducible first | exact HB.out | apply ai | apply ah | apply aj) | exact HB.out))); (case aF => exact (fun _ _ => trivial)); (case aO => exact (by (with_reducible repeat (first | apply Kd.iJ | apply Kd.iK | apply Kd.jw)); exact Kd.yL iI.out (fun k_ hk => ⟨trivial, fun e_ => hk.2 e_⟩))); (case aS => exact (az (by repeat (first | (with_reducible first | exact HB.out | apply ai | apply ah | apply aj) | exact HB.out)))); (case aL => have := Yj.out; omega); intro amR w11 ho hb hg hat; rw [← afb.out] at ho; have n0_ := af.mk (Kd.o6 (by (with_reducible repeat (first | apply Kd.aW | apply Kd.aX | apply Kd.bn)); exact vO.out) (Kd.o5 (by (with_reducible repeat (first | apply Kd.iJ | apply Kd.iK | apply Kd.jw)); exact iI.out)) (by decide) hg); have n1_ := af.mk (hb); have n2_ := af.mk (ho); clear vO; clear HB; clear iI; clear Nb; have vO := n0_; have HB := n1_; have afd := n2_; clear n0_ n1_ n2_; clear ho hb hg hat))
       go_roundg k1
       case measure => have := HK1.out; omega
       case rel => exact ⟨(afa), (wrap64 (je + 1)), (by first | rfl | (simp; done) | (simp [*]; done) | (simp; omega)), H', ⟨by have := HK1.out; omega⟩, ⟨by (with_reducible repeat (first | apply Kd.iJ | apply Kd.iK | apply Kd.jw)); exact afd.out⟩, ⟨by repeat (first | (with_reducible first | exact HB.out | apply ai | apply ah | apply aj) | exact HB.out)⟩⟩
      ·rw [if_neg c7] at H; exact absurd H (by simp)
     ·rw [if_neg c4] at H; exact absurd H (by simp)
    ·rw [if_neg c3] at H; exact absurd H (by simp)
   ·rw [if_neg c2] at H; have CJ : decide (je < (l0.length : Int)) = false := decide_eq_false c2; clear c2; obtain rfl := Option.some.inj H; go_wp2; go_ret; exact ⟨_, by first | rfl | (simp [aD, aG] <;> rfl) | (simp [*, aD, aG] <;> rfl), by (with_reducible repeat (first | apply Kd.iJ | apply Kd.iK | apply Kd.jw)); exact iI.out, by repeat (first | (with_reducible first | exact HB.out | apply ai | apply ah | apply aj) | exact HB.out)⟩
end Go.Proofs.Ytkgeihbcikiedaa.P
