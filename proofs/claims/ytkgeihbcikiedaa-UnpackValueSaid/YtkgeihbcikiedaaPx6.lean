/- The contracts of slipstickref07_Start, slipstickref01_cut, slipstickref01_Of that are used here, at all inputs where their Lean functions tell a result; cut out of what a changed copy of the kit's print wrote. -/
import Derived.Test.YtkgeihbcikiedaaPx0
namespace Go.Proofs.Ytkgeihbcikiedaa.P
open Go.RowKit Go.Proofs.YtkgeihbcikiedaaW.PrintWords Go.Proofs.YtkgeihbcikiedaaW.PrintLast Go.Proofs.YtkgeihbcikiedaaW.PrintMore
attribute [local go_sem] eU eX fU fV dX dY eZ fo
set_option linter.unusedVariables false
set_option linter.unusedSimpArgs false
def bM.l0 : Nat → List Int → Int → List (S92) → List (S94) → List (S94) → Option (List Int)
 | 0, _, _, _, _, _ => none
 | k + 1, x3, x4, tV, KT, KU => if x4 < (x3.length : Int) then (if 0 ≤ x4 then (if x4 < (tV.length : Int) then (if ((aM tV x4).f0) = 7 then (bM.l0 k (x3.set (x4 : Int).toNat ((aM tV x4).f2)) (wrap64 (x4 + 1)) tV KT KU) else (bM.l0 k x3 (wrap64 (x4 + 1)) tV KT KU)) else (none)) else (none)) else (some x3)
def bM.f (k : Nat) (aC : List (S92)) (bf : List (S94)) (bi : List (S94)) : Option (List Int) := if 0 ≤ (aC.length : Int) then (if ((aC.length : Int) : Int).toNat ≤ 35184372088832 then (bM.l0 k (List.replicate ((aC.length : Int) : Int).toNat 0) 0 aC bf bi) else (none)) else (none)
set_option maxHeartbeats 8000000 in
set_option maxRecDepth 100000 in
theorem bM.calls (k : Nat) (eT : Option Addr) (dJ : Nat) (aC : List (S92)) (dS : Option Addr) (dK : Nat) (bf : List (S94)) (dZ : Option Addr) (dM : Nat) (bi : List (S94)) (r : List Int) (w : World) (lX : Kd.C k92 w eT aC.length aC) (lY : aC.length ≤ dJ) (lZ : Kd.C k94 w dS bf.length bf) (l5 : bf.length ≤ dK) (l6 : Kd.C k94 w dZ bi.length bi) (l7 : bi.length ≤ dM) (h : bM.f k aC bf bi = some r) :
 Calls Try.prog 74 #[.agg #[.slice eT aC.length dJ, .slice dS bf.length dK, .slice dZ bi.length dM]] w fun e w' => ∃ v0_ : Value, e = .returned (v0_) ∧ Kd.R (Kd.int .i64) 3 w' w.heap.size (fun _ => True) v0_ r ∧ Below w.heap.size w w' := by
 have Bl := Try.underlying55; have kC := af.mk lX; have qw := af.mk lY; clear lX lY; have nJ := af.mk lZ; have qy := af.mk l5; clear lZ l5; have nK := af.mk l6; have qz := af.mk l7; clear l6 l7; have HB := af.mk (Below.refl w.heap.size w); have H : (if 0 ≤ (aC.length : Int) then (if ((aC.length : Int) : Int).toNat ≤ 35184372088832 then (bM.l0 k (List.replicate ((aC.length : Int) : Int).toNat 0) 0 aC bf bi) else (none)) else (none)) = some r := h; clear h
 by_cases c2 : 0 ≤ (aC.length : Int)
 ·rw [if_pos c2] at H; have CJ := eq_true c2; have XV : decide (0 ≤ (aC.length : Int)) = true := decide_eq_true c2; clear c2
  by_cases c3 : ((aC.length : Int) : Int).toNat ≤ 35184372088832
  ·rw [if_pos c3] at H; have ky := eq_true c3; have nZ : decide (((aC.length : Int) : Int).toNat ≤ 35184372088832) = true := decide_eq_true c3; clear c3
   obtain ⟨aby, EY⟩ : ∃ y_ : List Int, y_ = (List.replicate ((aC.length : Int) : Int).toNat 0) := ⟨_, rfl⟩
   replace H : (bM.l0 k aby 0 aC bf bi) = some r := by first | (rw [EY]; with_reducible exact H) | (have H2_ := (Option.bind_some _ _).symm.trans H; rw [EY]; with_reducible exact H2_) | (have H2_ := (Option.bind_some _ _).symm.trans H; with_reducible exact H2_) | with_reducible exact H | (rw [EY]; exact H) | exact H
   have Wh := af.mk EY; clear EY; have H' := af.mk H; clear H
   go_enter Try.func74, Try.ntmps74
   go_wp2_with (first | ((with_reducible refine bS (N := 1) rfl ?_); refine dw ?hg (N := 1) ?hd (cs := #[.slice eT aC.length dJ, .slice dS bf.length dK, .slice dZ bi.length dM]) (t := 55) ?hr ?_; (case hd => rfl); (case hg => rfl); (case hr => first | (go_simp; done) | (go_simp; rfl)); intro nL hg w4 hbox hb; have n0_ := af.mk (aA (by repeat (first | (with_reducible first | exact HB.out | apply ai | apply ah | apply aj) | exact HB.out)) hb); have n1_ := af.mk (hbox); have n2_ := af.mk ((by rw [hg]; exact (az (by repeat (first | (with_reducible first | exact HB.out | apply ai | apply ah | apply aj) | exact HB.out))) : w.heap.size ≤ nL)); have n3_ := af.mk ((by rw [hg]; exact (az (by repeat (first | (with_reducible first | exact HB.out | apply ai | apply ah | apply aj) | exact HB.out))) : w.heap.size ≤ nL)); clear HB; have HB := n0_; have iW := n1_; have aj8 := n2_; have BM := n3_; clear n0_ n1_ n2_ n3_; clear hb hbox hg; have XW : w4.cell? ⟨nL, 0, none⟩ = some (.slice eT aC.length dJ) := (ak iW.out 0).trans rfl; have XX : w4.cell? ⟨nL, 1, none⟩ = some (.slice dS bf.length dK) := (ak iW.out 1).trans rfl; have XY : w4.cell? ⟨nL, 2, none⟩ = some (.slice dZ bi.length dM) := (ak iW.out 2).trans rfl; have XZ := au iW.out 0; have X0 := au iW.out 1; have X5 := au iW.out 2) | ((with_reducible refine bS (N := 8) rfl ?_); refine Kd.oM (Kd.int .i64) _ 3 rfl (N := 8) rfl 44 _ _ rfl (aC.length : Int) rfl rfl Try.underlying44 (.int .i64 0) 8 info3 rfl (by decide) (by omega) 0 (ok := fun _ => True) (okp := fun _ => True) rfl (fun _ hk => hk) trivial (of_decide_eq_true (by first | (with_reducible assumption) | assumption)) (Nat.le_trans (Nat.mul_le_mul_right _ (of_decide_eq_true (by first | (with_reducible assumption) | assumption) : (aC.length : Int).toNat ≤ 35184372088832)) (by omega)) (Below.refl _ _) (Nat.le_refl _) ?_; intro ahM w6 ho7 hb hg_ hnew_; clear hg_ hnew_; (first | rw [← Wh.out] at ho7 | (simp only [Int.reduceToNat] at ho7; rw [← Wh.out] at ho7)); have n0_ := af.mk (Kd.fA ho7 (az (by repeat (first | (with_reducible first | exact HB.out | apply ai | apply ah | apply aj | refine ay ?_ BM.out) | exact HB.out)))); have n1_ := af.mk (bP (g := nL) (o := .cells #[.slice eT aC.length dJ, .slice dS bf.length dK, .slice dZ bi.length dM] 55 (0, 0)) (by (with_reducible repeat (first | refine aI ?_ _ | refine aH ?_ | refine aJ ?_ _)); exact iW.out) hb); have n2_ := af.mk (aA (by repeat (first | (with_reducible first | exact HB.out | apply ai | apply ah | apply aj | refine ay ?_ BM.out) | exact HB.out)) hb); clear iW; clear HB; have abz := n0_; have iW := n1_; have HB := n2_; clear n0_ n1_ n2_; clear hb ho7))
   go_loopg [4] k (fun kq v4 w' => ∃ (dH : List Int) (fD : Int), v4 = .int .i64 fD ∧ af (bM.l0 kq dH fD aC bf bi = some r) ∧ af (kq ≤ k) ∧ af (Kd.R (Kd.int .i64) 3 w' w.heap.size (fun _ => True) ahM dH) ∧ af (w'.heap[nL]? = some (.cells #[(.slice eT aC.length dJ), (.slice dS bf.length dK), (.slice dZ bi.length dM)] 55 (0, 0))) ∧ af (Below w.heap.size w w'))
   case atStart => exact ⟨(aby), (0), (by first | rfl | (simp; done) | (simp [*]; done) | (simp; omega)), H', ⟨Nat.le_refl _⟩, ⟨by (with_reducible repeat (first | apply Kd.aW | apply Kd.aX | apply Kd.bn)); exact abz.out⟩, ⟨by (with_reducible repeat (first | refine aI ?_ _ | refine aH ?_ | refine aJ ?_ _)); exact iW.out⟩, ⟨by repeat (first | (with_reducible first | exact HB.out | apply ai | apply ah | apply aj | refine ay ?_ BM.out) | exact HB.out)⟩⟩
   case round =>
    clear H'
    try clear c2
    try clear CJ
    try clear XV
    try clear p2
    try clear c3
    try clear ky
    try clear nZ
    try clear c7
    try clear XW
    try clear XX
    try clear XY
    try clear XZ
    try clear X0
    try clear X5
    obtain ⟨dH, fD, rfl, HA, HK1, iI, iW, HB⟩ := hrel
    cases gk with
    | zero => exact absurd HA.out (by simp [bM.l0])
    | succ k1 =>
     have H := HA.out; clear HA; simp only [bM.l0] at H
     by_cases c8 : fD < (dH.length : Int)
     ·rw [if_pos c8] at H; have kQ : decide (fD < (dH.length : Int)) = true := decide_eq_true c8; clear c8
      by_cases c9 : 0 ≤ fD
      ·rw [if_pos c9] at H; have oO : decide (0 ≤ fD) = true := decide_eq_true c9; clear c9
       by_cases c10 : fD < (aC.length : Int)
       ·rw [if_pos c10] at H; have rW : decide (fD < (aC.length : Int)) = true := decide_eq_true c10; clear c10
        by_cases c11 : ((aM aC fD).f0) = 7
        ·rw [if_pos c11] at H; have kK : (((aM aC fD).f0) == 7) = true := beq_iff_eq.mpr c11; have wZ : (((aM aC fD).f0) != 7) = false := bne_eq_false_iff_eq.mpr c11; clear c11
         obtain ⟨X6, EZ⟩ : ∃ y_ : List Int, y_ = (dH.set (fD : Int).toNat ((aM aC fD).f2)) := ⟨_, rfl⟩
         replace H : (bM.l0 k1 X6 (wrap64 (fD + 1)) aC bf bi) = some r := by first | (rw [EZ]; with_reducible exact H) | (have H2_ := (Option.bind_some _ _).symm.trans H; rw [EZ]; with_reducible exact H2_) | (have H2_ := (Option.bind_some _ _).symm.trans H; with_reducible exact H2_) | with_reducible exact H | (rw [EZ]; exact H) | exact H
         have abA := af.mk EZ; clear EZ; have H' := af.mk H; clear H; obtain ⟨alc, ahN, ahO⟩ := Kd.bQ iI.out; subst ahO; have afe : wr.cell? ⟨nL, 0, none⟩ = some (.slice eT aC.length dJ) := (ak iW.out 0).trans rfl; have aff : wr.cell? ⟨nL, 1, none⟩ = some (.slice dS bf.length dK) := (ak iW.out 1).trans rfl; have afg : wr.cell? ⟨nL, 2, none⟩ = some (.slice dZ bi.length dM) := (ak iW.out 2).trans rfl; have afh := au iW.out 0; have afi := au iW.out 1; have afj := au iW.out 2; have IG : 0 ≤ (fD : Int) := of_decide_eq_true (by first | (with_reducible assumption) | assumption); have II : fD < (aC.length : Int) := of_decide_eq_true (by first | (with_reducible assumption) | assumption); obtain ⟨O8, e217, oP, oQ, oU, oV⟩ := mE kC.out fD IG II; cases e217; replace oP := (HB.out.cell (World.block_lt_of_cell? w _ oP)).trans oP; replace oQ := (HB.out.cell (World.block_lt_of_cell? w _ oQ)).trans oQ; replace oU := (HB.out.cell (World.block_lt_of_cell? w _ oU)).trans oU; replace oV := (HB.out.cell (World.block_lt_of_cell? w _ oV)).trans oV; replace IG := eq_true IG; replace II := eq_true II; have X7 : 0 ≤ (fD : Int) := of_decide_eq_true (by first | (with_reducible assumption) | assumption); have X8 : fD < (aC.length : Int) := of_decide_eq_true (by first | (with_reducible assumption) | assumption); obtain ⟨abB, ahP, CK, CL, CO, CP⟩ := mE kC.out fD X7 X8
         obtain rfl : O8 = abB := (by injection ahP)
         replace CK := (HB.out.cell (World.block_lt_of_cell? w _ CK)).trans CK; replace CL := (HB.out.cell (World.block_lt_of_cell? w _ CL)).trans CL; replace CO := (HB.out.cell (World.block_lt_of_cell? w _ CO)).trans CO; replace CP := (HB.out.cell (World.block_lt_of_cell? w _ CP)).trans CP; replace X7 := eq_true X7; replace X8 := eq_true X8; have p12 : 0 ≤ (fD : Int) := of_decide_eq_true (by first | (with_reducible assumption) | assumption); have q12 : (fD : Int) < ((dH.length : Int) : Int) := of_decide_eq_true (by first | (with_reducible assumption) | assumption); obtain ⟨X9, Ya, SY, abC, ahQ, ald, abD⟩ := Kd.kH iI.out (by omega)
         (first | cases SY | (injection SY with ea_ en_ ec_; (first | subst ea_ | (injection ea_ with ea_; subst ea_)); subst ec_; clear en_))
         have ahR := af.mk abC; have ale := af.mk abD; clear abC ahQ abD; obtain ⟨ahS, ahT⟩ := Kd.gu 0 iI.out (fD : Int) p12 q12; replace p12 := eq_true p12; replace q12 := eq_true q12; have Yb := Kd.lH iI.out (fD : Int) ((aM aC fD).f2); go_wp2_with (first | ((with_reducible refine gp (t := 3) (p := 30) rfl ?_); refine fT (t := 3) (p := 30) (v := ?ahU) (w1 := (wr.setCell ⟨X9, (fD : Int).toNat, none⟩ (.int .i64 ((aM aC fD).f2)))) ?hg ?ho ?hn ?hr ?_; (case ho => rfl); (case hg => rfl); (case hn => rfl); (case hr => first | (go_simp; done) | (go_simp; rfl)); intro w16 hw; have hg : wr.grownBy w16 (some X9) := (by rw [hw]; exact Yb.2); have hp_ : Kd.R (Kd.int .i64) 3 w16 w.heap.size (fun _ => True) (.slice (some ⟨X9, 0, none⟩) dH.length ahN) X6 := (by rw [hw, abA.out]; exact Yb.1); clear Yb; have n0_ := af.mk (hp_); have n1_ := af.mk (fQ (g := nL) (o := .cells #[.slice (some O8) aC.length dJ, .slice dS bf.length dK, .slice dZ bi.length dM] 55 (0, 0)) (by (with_reducible repeat (first | refine aI ?_ _ | refine aH ?_ | refine aJ ?_ _)); exact iW.out) hg (Kd.mI iI.out iW.out (by decide))); have n2_ := af.mk ((by rw [hw]; exact ay (HB.out) ahR.out : Below w.heap.size w w16)); clear iI; clear iW; clear HB; have iI := n0_; have iW := n1_; have HB := n2_; clear n0_ n1_ n2_; clear hg hw hp_))
         go_roundg k1
         case measure => have := HK1.out; omega
         case rel => exact ⟨(X6), (wrap64 (fD + 1)), (by first | rfl | (simp; done) | (simp [*]; done) | (simp; omega)), H', ⟨by have := HK1.out; omega⟩, ⟨by (with_reducible repeat (first | apply Kd.aW | apply Kd.aX | apply Kd.bn)); exact iI.out⟩, ⟨by (with_reducible repeat (first | refine aI ?_ _ | refine aH ?_ | refine aJ ?_ _)); exact iW.out⟩, ⟨by repeat (first | (with_reducible first | exact HB.out | apply ai | apply ah | apply aj | refine ay ?_ BM.out) | exact HB.out)⟩⟩
        ·rw [if_neg c11] at H; have kK : (((aM aC fD).f0) == 7) = false := beq_eq_false_iff_ne.mpr c11; have wZ : (((aM aC fD).f0) != 7) = true := bne_iff_ne.mpr c11; have H' := af.mk H; clear H; obtain ⟨E5, yA, Bo⟩ := Kd.bQ iI.out; subst Bo; have CQ : wr.cell? ⟨nL, 0, none⟩ = some (.slice eT aC.length dJ) := (ak iW.out 0).trans rfl; have CR : wr.cell? ⟨nL, 1, none⟩ = some (.slice dS bf.length dK) := (ak iW.out 1).trans rfl; have CS : wr.cell? ⟨nL, 2, none⟩ = some (.slice dZ bi.length dM) := (ak iW.out 2).trans rfl; have CU := au iW.out 0; have CV := au iW.out 1; have CW := au iW.out 2; have IG : 0 ≤ (fD : Int) := of_decide_eq_true (by first | (with_reducible assumption) | assumption); have II : fD < (aC.length : Int) := of_decide_eq_true (by first | (with_reducible assumption) | assumption); obtain ⟨O8, e217, oP, oQ, oU, oV⟩ := mE kC.out fD IG II; cases e217; replace oP := (HB.out.cell (World.block_lt_of_cell? w _ oP)).trans oP; replace oQ := (HB.out.cell (World.block_lt_of_cell? w _ oQ)).trans oQ; replace oU := (HB.out.cell (World.block_lt_of_cell? w _ oU)).trans oU; replace oV := (HB.out.cell (World.block_lt_of_cell? w _ oV)).trans oV; replace IG := eq_true IG; replace II := eq_true II; go_wp2
         go_roundg k1
         case measure => have := HK1.out; omega
         case rel => exact ⟨(dH), (wrap64 (fD + 1)), (by first | rfl | (simp; done) | (simp [*]; done) | (simp; omega)), H', ⟨by have := HK1.out; omega⟩, ⟨by (with_reducible repeat (first | apply Kd.aW | apply Kd.aX | apply Kd.bn)); exact iI.out⟩, ⟨by (with_reducible repeat (first | refine aI ?_ _ | refine aH ?_ | refine aJ ?_ _)); exact iW.out⟩, ⟨by repeat (first | (with_reducible first | exact HB.out | apply ai | apply ah | apply aj | refine ay ?_ BM.out) | exact HB.out)⟩⟩
       ·rw [if_neg c10] at H; exact absurd H (by simp)
      ·rw [if_neg c9] at H; exact absurd H (by simp)
     ·rw [if_neg c8] at H; have kQ : decide (fD < (dH.length : Int)) = false := decide_eq_false c8; clear c8; obtain rfl := Option.some.inj H; obtain ⟨alf, alg, ahV⟩ := Kd.bQ iI.out; subst ahV; go_wp2; go_ret; exact ⟨_, by first | rfl | (simp [aD, aG] <;> rfl) | (simp [*, aD, aG] <;> rfl), by (with_reducible repeat (first | apply Kd.aW | apply Kd.aX | apply Kd.bn)); exact iI.out, by repeat (first | (with_reducible first | exact HB.out | apply ai | apply ah | apply aj | refine ay ?_ BM.out) | exact HB.out)⟩
  ·rw [if_neg c3] at H; exact absurd H (by simp)
 ·rw [if_neg c2] at H; exact absurd H (by simp)
def bX.l0 : Nat → List Bool → Int → Option (List Bool)
 | 0, _, _ => none
 | k + 1, x0, x3 => if x3 > 0 then (if 0 ≤ (wrap64 (x3 - 1)) then (if (wrap64 (x3 - 1)) < (x0.length : Int) then (if (lI false x0 (wrap64 (x3 - 1)) = true) then (if 0 ≤ x3 then (if x3 ≤ (x0.length : Int) then (some (x0.take (x3 : Int).toNat)) else (none)) else (none)) else (bX.l0 k x0 (wrap64 (x3 - 1)))) else (none)) else (none)) else (if 0 ≤ x3 then (if x3 ≤ (x0.length : Int) then (some (x0.take (x3 : Int).toNat)) else (none)) else (none))
def bX.f (k : Nat) (l0 : List Bool) : Option (List Bool) := bX.l0 k l0 (l0.length : Int)
set_option maxHeartbeats 8000000 in
set_option maxRecDepth 100000 in
theorem bX.calls (k : Nat) (P0_ : Nat → Prop) (A0 : Option Addr) (c0 : Nat) (l0 : List Bool) (r : List Bool) (w : World) (hs0 : Kd.V Kd.bool 4 w w.heap.size (fun k_ => P0_ k_) (.slice A0 l0.length c0) l0) (h : bX.f k l0 = some r) :
 Calls Try.prog 98 #[.slice A0 l0.length c0] w fun e w' => ∃ v0_ : Value, e = .returned (v0_) ∧ Kd.V Kd.bool 4 w' w.heap.size (fun k_ => (P0_ k_ ∨ w.heap.size ≤ k_)) v0_ r ∧ Below w.heap.size w w' := by
 have HO0 := af.mk (show Kd.V Kd.bool 4 w w.heap.size (fun k_ => (P0_ k_ ∨ w.heap.size ≤ k_)) (.slice A0 l0.length c0) l0 from Kd.iB hs0 (fun k_ hk => .inl hk)); have HB := af.mk (Below.refl w.heap.size w); have H : (bX.l0 k l0 (l0.length : Int)) = some r := h; clear h; have H' := af.mk H; clear H
 go_enter Try.func98, Try.ntmps98
 go_wp2
 go_loopg [3] k (fun kq v3 w' => ∃ (dH : Int), v3 = .int .i64 dH ∧ af (bX.l0 kq l0 dH = some r) ∧ af (kq ≤ k) ∧ af (Kd.V Kd.bool 4 w' w.heap.size (fun k_ => (P0_ k_ ∨ w.heap.size ≤ k_)) (.slice A0 l0.length c0) l0) ∧ af (Below w.heap.size w w'))
 case atStart => exact ⟨((l0.length : Int)), (by first | rfl | (simp; done) | (simp [*]; done) | (simp; omega)), H', ⟨Nat.le_refl _⟩, ⟨by (with_reducible repeat (first | apply Kd.jg | apply Kd.jh | apply Kd.kz)); exact HO0.out⟩, ⟨by repeat (first | (with_reducible first | exact HB.out | apply ai | apply ah | apply aj) | exact HB.out)⟩⟩
 case round =>
  clear H'; obtain ⟨dH, rfl, HA, HK1, sJ, HB⟩ := hrel
  cases gk with
  | zero => exact absurd HA.out (by simp [bX.l0])
  | succ k1 =>
   have H := HA.out; clear HA; simp only [bX.l0] at H
   by_cases c2 : dH > 0
   ·rw [if_pos c2] at H; have CJ : decide (0 < dH) = true := decide_eq_true c2; clear c2
    obtain ⟨ji3, l8⟩ : ∃ j_ : Int, (wrap64 (dH - 1)) = j_ := ⟨_, rfl⟩
    replace H : (if 0 ≤ (ji3) then (if (ji3) < (l0.length : Int) then (if (lI false l0 (ji3) = true) then (if 0 ≤ dH then (if dH ≤ (l0.length : Int) then (some (l0.take (dH : Int).toNat)) else (none)) else (none)) else (bX.l0 k1 l0 ji3)) else (none)) else (none)) = some r := by first | (rw [l8] at H; exact H) | (simp only [l8] at H ⊢; exact H)
    have abE : (IntKind.i64.wrap (dH - 1)) = ji3 := (aU _).trans l8
    by_cases c4 : 0 ≤ (ji3)
    ·rw [if_pos c4] at H; have jR : decide (0 ≤ (ji3)) = true := decide_eq_true c4; clear c4
     by_cases c5 : (ji3) < (l0.length : Int)
     ·rw [if_pos c5] at H; have oW : decide ((ji3) < (l0.length : Int)) = true := decide_eq_true c5; clear c5
      obtain ⟨bq6, Yc⟩ : ∃ b_ : Bool, b_ = (lI false l0 (ji3)) := ⟨_, rfl⟩
      replace H : (if (bq6 = true) then (if 0 ≤ dH then (if dH ≤ (l0.length : Int) then (some (l0.take (dH : Int).toNat)) else (none)) else (none)) else (bX.l0 k1 l0 ji3)) = some r := by rw [← Yc] at H; exact H
      have abF := af.mk Yc; clear Yc
      by_cases c7 : (bq6 = true)
      ·subst c7
       have H1 : (if 0 ≤ dH then (if dH ≤ (l0.length : Int) then (some (l0.take (dH : Int).toNat)) else (none)) else (none)) = some r := by rw [if_pos rfl] at H; exact H
       clear H; have H := H1; clear H1
       by_cases c8 : 0 ≤ dH
       ·rw [if_pos c8] at H; have kQ := eq_true c8; have IJ : decide (0 ≤ dH) = true := decide_eq_true c8; clear c8
        by_cases c9 : dH ≤ (l0.length : Int)
        ·rw [if_pos c9] at H; have oO := eq_true c9; have O9 : decide (dH ≤ (l0.length : Int)) = true := decide_eq_true c9; clear c9
         obtain ⟨Pb, E8⟩ : ∃ y_ : List Bool, y_ = (l0.take (dH : Int).toNat) := ⟨_, rfl⟩
         replace H : (some Pb) = some r := by first | (rw [E8]; with_reducible exact H) | (have H2_ := (Option.bind_some _ _).symm.trans H; rw [E8]; with_reducible exact H2_) | (have H2_ := (Option.bind_some _ _).symm.trans H; with_reducible exact H2_) | with_reducible exact H | (rw [E8]; exact H) | exact H
         have Wi := af.mk E8; clear E8; obtain rfl := Option.some.inj H; have IK : 0 ≤ ((ji3) : Int) := of_decide_eq_true (by first | (with_reducible assumption) | assumption); have IM : (ji3) < (l0.length : Int) := of_decide_eq_true (by first | (with_reducible assumption) | assumption); obtain ⟨KV, e220, CX⟩ := Kd.mJ (Kd.jl sJ.out).2.2 (ji3) IK IM
         (try rw [← abF.out] at CX)
         cases e220; replace IK := eq_true IK; replace IM := eq_true IM; have q10 : (dH : Int) ≤ ((l0.length : Int) : Int) := of_decide_eq_true (by first | (with_reducible assumption) | assumption); obtain ⟨alh, Wj, _, abG, _⟩ := info_parts BN; have KW : l0.length ≤ c0 := (Kd.jl sJ.out).2.1; have abH : Kd.F Kd.bool _ _ (some KV) l0.length l0 := (Kd.E9 (base := w.heap.size) sJ.out).2.2; have Yd := yB (P := Try.prog) 38 4 .i64 Try.underlying38 Wj (some KV) l0.length c0 dH (of_decide_eq_true (by first | (with_reducible assumption) | assumption)) q10 KW; have Ye := Kd.yC (m := (dH : Int).toNat) abH (by omega)
         have Yf : Pb.length = (dH : Int).toNat := (by rw [Wi.out, List.length_take]; omega)
         rw [← Wi.out] at Ye; rw [← Yf] at Yd; have abI := af.mk (show Kd.V Kd.bool 4 _ w.heap.size _ (.slice (some KV) Pb.length c0) Pb from Kd.vQ (by omega) Ye); have aj9 := af.mk (show Pb.length ≤ c0 from by omega); clear Ye abH KW Wj abG; have ali := af.mk Yf; clear Yf; replace q10 := eq_true q10; go_wp2; go_ret; exact ⟨_, by first | rfl | (simp [aD, aG] <;> rfl) | (simp only [← l8]; first | rfl | (simp [aD, aG] <;> rfl)) | (simp [*, aD, aG] <;> rfl), by (with_reducible repeat (first | apply Kd.jg | apply Kd.jh | apply Kd.kz)); exact abI.out, by repeat (first | (with_reducible first | exact HB.out | apply ai | apply ah | apply aj) | exact HB.out)⟩
        ·rw [if_neg c9] at H; exact absurd H (by simp)
       ·rw [if_neg c8] at H; exact absurd H (by simp)
      ·replace c7 := Bool.eq_false_iff.mpr c7; subst c7
       have H1 : (bX.l0 k1 l0 ji3) = some r := by rw [if_neg (show ¬ (false = true) by decide)] at H; exact H
       clear H; have H := H1; clear H1; have H' := af.mk H; clear H; have IK : 0 ≤ ((ji3) : Int) := of_decide_eq_true (by first | (with_reducible assumption) | assumption); have IM : (ji3) < (l0.length : Int) := of_decide_eq_true (by first | (with_reducible assumption) | assumption); obtain ⟨KV, e220, CX⟩ := Kd.mJ (Kd.jl sJ.out).2.2 (ji3) IK IM
       (try rw [← abF.out] at CX)
       cases e220; replace IK := eq_true IK; replace IM := eq_true IM; go_wp2
       go_roundg k1
       case measure => have := HK1.out; omega
       case rel => exact ⟨(ji3), (by first | rfl | (simp; done) | (simp only [← l8] <;> (first | rfl | simp)) | (simp [*]; done) | (simp; omega)), H', ⟨by have := HK1.out; omega⟩, ⟨by (with_reducible repeat (first | apply Kd.jg | apply Kd.jh | apply Kd.kz)); exact sJ.out⟩, ⟨by repeat (first | (with_reducible first | exact HB.out | apply ai | apply ah | apply aj) | exact HB.out)⟩⟩
     ·rw [if_neg c5] at H; exact absurd H (by simp)
    ·rw [if_neg c4] at H; exact absurd H (by simp)
   ·rw [if_neg c2] at H; have CJ : decide (0 < dH) = false := decide_eq_false c2; clear c2
    by_cases c11 : 0 ≤ dH
    ·rw [if_pos c11] at H; have kK := eq_true c11; have wZ : decide (0 ≤ dH) = true := decide_eq_true c11; clear c11
     by_cases c12 : dH ≤ (l0.length : Int)
     ·rw [if_pos c12] at H; have tX := eq_true c12; have KX : decide (dH ≤ (l0.length : Int)) = true := decide_eq_true c12; clear c12
      obtain ⟨Pf, Fa⟩ : ∃ y_ : List Bool, y_ = (l0.take (dH : Int).toNat) := ⟨_, rfl⟩
      replace H : (some Pf) = some r := by first | (rw [Fa]; with_reducible exact H) | (have H2_ := (Option.bind_some _ _).symm.trans H; rw [Fa]; with_reducible exact H2_) | (have H2_ := (Option.bind_some _ _).symm.trans H; with_reducible exact H2_) | with_reducible exact H | (rw [Fa]; exact H) | exact H
      have Wl := af.mk Fa; clear Fa; obtain rfl := Option.some.inj H; have q13 : (dH : Int) ≤ ((l0.length : Int) : Int) := of_decide_eq_true (by first | (with_reducible assumption) | assumption); obtain ⟨alj, Wm, _, abJ, _⟩ := info_parts BN; have KY : l0.length ≤ c0 := (Kd.jl sJ.out).2.1; have abK : Kd.F Kd.bool _ _ A0 l0.length l0 := (Kd.E9 (base := w.heap.size) sJ.out).2.2; have Yg := yB (P := Try.prog) 38 4 .i64 Try.underlying38 Wm A0 l0.length c0 dH (of_decide_eq_true (by first | (with_reducible assumption) | assumption)) q13 KY; have Yh := Kd.yC (m := (dH : Int).toNat) abK (by omega)
      have Yi : Pf.length = (dH : Int).toNat := (by rw [Wl.out, List.length_take]; omega)
      rw [← Wl.out] at Yh; rw [← Yi] at Yg; have abL := af.mk (show Kd.V Kd.bool 4 _ w.heap.size _ (.slice A0 Pf.length c0) Pf from Kd.vQ (by omega) Yh); have aka := af.mk (show Pf.length ≤ c0 from by omega); clear Yh abK KY Wm abJ; have alk := af.mk Yi; clear Yi; replace q13 := eq_true q13; go_wp2; go_ret; exact ⟨_, by first | rfl | (simp [aD, aG] <;> rfl) | (simp [*, aD, aG] <;> rfl), by (with_reducible repeat (first | apply Kd.jg | apply Kd.jh | apply Kd.kz)); exact abL.out, by repeat (first | (with_reducible first | exact HB.out | apply ai | apply ah | apply aj) | exact HB.out)⟩
     ·rw [if_neg c12] at H; exact absurd H (by simp)
    ·rw [if_neg c11] at H; exact absurd H (by simp)
mutual
def bD.l0 : Nat → List Int → List Bool → Int → Option (List Bool)
 | 0, _, _, _ => none
 | k + 1, x0, x3, x4 => if x4 < (x0.length : Int) then (if 0 ≤ x4 then (bD.l1 k x0 x3 x4 (rd x0 x4) 0) else (none)) else ((bX.f k x3).bind fun t234 => (some t234))
def bD.l1 : Nat → List Int → List Bool → Int → Int → Int → Option (List Bool)
 | 0, _, _, _, _, _ => none
 | k + 1, x0, x3, x4, x5, x6 => if x6 < 32 then (if x3.length < 140737488355328 then (bD.l1 k x0 (x3 ++ [((Int.tmod x5 2) == 1)]) x4 ((Int.tdiv x5 2) % 4294967296) (wrap64 (x6 + 1))) else (none)) else (bD.l0 k x0 x3 (wrap64 (x4 + 1)))
end
def bD.f (k : Nat) (l0 : List Int) : Option (List Bool) := bD.l0 k l0 (([] : List Bool)) 0
set_option maxHeartbeats 8000000 in
set_option maxRecDepth 100000 in
theorem bD.calls (k : Nat) (A0 : Option Addr) (c0 : Nat) (l0 : List Int) (r : List Bool) (w : World) (hr0 : Kd.C (Kd.int .u32) w A0 l0.length l0) (hc0 : l0.length ≤ c0) (h : bD.f k l0 = some r) :
 Calls Try.prog 88 #[.slice A0 l0.length c0] w fun e w' => ∃ v0_ : Value, e = .returned (v0_) ∧ Kd.V Kd.bool 4 w' w.heap.size (fun k_ => (w.heap.size ≤ k_)) v0_ r ∧ Below w.heap.size w w' := by
 have HR0 := af.mk hr0; have HC0 := af.mk hc0; clear hr0 hc0; have HB := af.mk (Below.refl w.heap.size w); have H : (bD.l0 k l0 (([] : List Bool)) 0) = some r := h; clear h
 obtain ⟨abM, Fb⟩ : ∃ y_ : List Bool, y_ = (([] : List Bool)) := ⟨_, rfl⟩
 replace H : (bD.l0 k l0 abM 0) = some r := by first | (rw [Fb]; with_reducible exact H) | (have H2_ := (Option.bind_some _ _).symm.trans H; rw [Fb]; with_reducible exact H2_) | (have H2_ := (Option.bind_some _ _).symm.trans H; with_reducible exact H2_) | with_reducible exact H | (rw [Fb]; exact H) | exact H
 have Wn := af.mk Fb; clear Fb; have H' := af.mk H; clear H
 go_enter Try.func88, Try.ntmps88
 go_wp2_with (first | ((with_reducible refine bS (N := 7) rfl ?_); refine Kd.oz Kd.bool _ 4 ?hg (N := 7) ?hd (xs := ([] : List Bool)) (inner := []) (ok := fun _ => True) (okp := fun _ => True) ?hr ?hp (fun _ hk => hk) trivial (Below.refl _ _) (Nat.le_refl _) (by simp) ?_; (case hd => rfl); (case hg => rfl); (case hr => first | (go_simp; done) | (go_simp; rfl)); (case hp => exact (eF.none _ _)); intro v232 w2 ho3 hb hg_ hnew_; clear hg_ hnew_; (first | rw [← Wn.out] at ho3 | (simp only [Int.reduceToNat] at ho3; rw [← Wn.out] at ho3)); have n0_ := af.mk (Kd.fA (Kd.CY (M := fun k_ => (w.heap.size ≤ k_)) ho3 (az (by repeat (first | (with_reducible first | exact HB.out | apply ai | apply ah | apply aj) | exact HB.out))) (fun k_ h_ => h_)) (az (by repeat (first | (with_reducible first | exact HB.out | apply ai | apply ah | apply aj) | exact HB.out)))); have n1_ := af.mk (aA (by repeat (first | (with_reducible first | exact HB.out | apply ai | apply ah | apply aj) | exact HB.out)) hb); clear HB; have abN := n0_; have HB := n1_; clear n0_ n1_; clear hb ho3))
 go_loopg [3, 4] k (fun kq v3 v4 w' => ∃ (dH : List Bool) (fD : Int), v4 = .int .i64 fD ∧ af (bD.l0 kq l0 dH fD = some r) ∧ af (kq ≤ k) ∧ af (Kd.R Kd.bool 4 w' w.heap.size (fun k_ => (w.heap.size ≤ k_)) v3 dH) ∧ af (Below w.heap.size w w'))
 case atStart => exact ⟨(abM), (0), (by first | rfl | (simp; done) | (simp [*]; done) | (simp; omega)), H', ⟨Nat.le_refl _⟩, ⟨by (with_reducible repeat (first | apply Kd.aW | apply Kd.aX | apply Kd.bn)); exact Kd.eG abN.out (fun _ hk => hk.1)⟩, ⟨by repeat (first | (with_reducible first | exact HB.out | apply ai | apply ah | apply aj) | exact HB.out)⟩⟩
 case round =>
  clear H'
  try clear p2
  obtain ⟨dH, fD, rfl, HA, HK1, iI, HB⟩ := hrel
  cases gk with
  | zero => exact absurd HA.out (by simp [bD.l0])
  | succ k1 =>
   have H := HA.out; clear HA; simp only [bD.l0] at H
   by_cases c4 : fD < (l0.length : Int)
   ·rw [if_pos c4] at H; have jR : decide (fD < (l0.length : Int)) = true := decide_eq_true c4; clear c4
    by_cases c5 : 0 ≤ fD
    ·rw [if_pos c5] at H; have oW : decide (0 ≤ fD) = true := decide_eq_true c5; clear c5; have H' := af.mk H; clear H; have S9 : 0 ≤ (fD : Int) := of_decide_eq_true (by first | (with_reducible assumption) | assumption); have Ta : fD < (l0.length : Int) := of_decide_eq_true (by first | (with_reducible assumption) | assumption); obtain ⟨akb, e237, xK⟩ := Kd.cZ HR0.out fD S9 Ta; cases e237; replace xK := (HB.out.cell (World.block_lt_of_cell? w _ xK)).trans xK; replace S9 := eq_true S9; replace Ta := eq_true Ta; go_wp2
     go_loopg [3, 5, 6] k1 (fun kq v3 v5 v6 w' => ∃ (IP : List Bool) (og : Int) (iX : Int), v5 = .int .u32 og ∧ v6 = .int .i64 iX ∧ af (bD.l1 kq l0 IP fD og iX = some r) ∧ af (kq ≤ k1) ∧ af (Kd.R Kd.bool 4 w' w.heap.size (fun k_ => (w.heap.size ≤ k_)) v3 IP) ∧ af (Below w.heap.size w w'))
     case atStart => exact ⟨(dH), (rd l0 fD), (0), (by first | rfl | (simp; done) | (simp [*]; done) | (simp; omega)), (by first | rfl | (simp; done) | (simp [*]; done) | (simp; omega)), H', ⟨Nat.le_refl _⟩, ⟨by (with_reducible repeat (first | apply Kd.aW | apply Kd.aX | apply Kd.bn)); exact iI.out⟩, ⟨by repeat (first | (with_reducible first | exact HB.out | apply ai | apply ah | apply aj) | exact HB.out)⟩⟩
     case round =>
      clear H'
      try clear p2
      try clear q2
      try clear hx2
      try clear c4
      try clear jR
      try clear c5
      try clear oW
      try clear xK
      try clear p2
      try clear S9
      try clear Ta
      obtain ⟨IP, og, iX, rfl, rfl, HA, HK2, iI, HB⟩ := hrel
      cases gk with
      | zero => exact absurd HA.out (by simp [bD.l1])
      | succ k2 =>
       have H := HA.out; clear HA; simp only [bD.l1] at H
       by_cases c6 : iX < 32
       ·rw [if_pos c6] at H; have oC : decide (iX < 32) = true := decide_eq_true c6; clear c6
        by_cases c7 : IP.length < 140737488355328
        ·rw [if_pos c7] at H; have Yj := af.mk c7; clear c7
         obtain ⟨abO, Fe⟩ : ∃ y_ : List Bool, y_ = (IP ++ [((Int.tmod og 2) == 1)]) := ⟨_, rfl⟩
         replace H : (bD.l1 k2 l0 abO fD ((Int.tdiv og 2) % 4294967296) (wrap64 (iX + 1))) = some r := by first | (rw [Fe]; with_reducible exact H) | (have H2_ := (Option.bind_some _ _).symm.trans H; rw [Fe]; with_reducible exact H2_) | (have H2_ := (Option.bind_some _ _).symm.trans H; with_reducible exact H2_) | with_reducible exact H | (rw [Fe]; exact H) | exact H
         have abP := af.mk Fe; clear Fe; have H' := af.mk H; clear H; go_wp2_with (first | ((with_reducible refine gy (b := .append) (xs := #[.tmp 22, .tmp 26]) rfl ?_); at_builtin; refine Kd.kP Kd.bool (w0 := w) w.heap.size rfl (.tmp 22) (.tmp 26) 38 4 (.bool false) 1 rfl Try.underlying38 BN rfl (by decide) (by omega) u3 IP ((Int.tmod og 2) == 1) [.bool ((Int.tmod og 2) == 1)] (fun k_ => (w.heap.size ≤ k_)) (fun _ => False) rfl rfl ?aP (fun _ hk => hk.elim) ?aF ?aO ?aB ?aS ?aL ?_; (case aP => exact rfl); (case aB => exact (by repeat (first | (with_reducible first | exact HB.out | apply ai | apply ah | apply aj) | exact HB.out))); (case aF => exact (fun k_ hk => (Nat.le_trans (az (by repeat (first | (with_reducible first | exact HB.out | apply ai | apply ah | apply aj) | exact HB.out))) hk))); (case aO => exact (by (with_reducible repeat (first | apply Kd.aW | apply Kd.aX | apply Kd.bn)); exact iI.out)); (case aS => exact (az (by repeat (first | (with_reducible first | exact HB.out | apply ai | apply ah | apply aj) | exact HB.out)))); (case aL => have := Yj.out; omega); intro alm w8 ho hb hg hat; rw [← abP.out] at ho; have n0_ := af.mk (hb); have n1_ := af.mk (ho); clear HB; clear iI; have HB := n0_; have abQ := n1_; clear n0_ n1_; clear ho hb hg hat))
         go_roundg k2
         case measure => have := HK1.out; have := HK2.out; omega
         case rel => exact ⟨(abO), ((Int.tdiv og 2) % 4294967296), (wrap64 (iX + 1)), (by first | rfl | (simp; done) | (simp [*]; done) | (simp; omega)), (by first | rfl | (simp; done) | (simp [*]; done) | (simp; omega)), H', ⟨by have := HK1.out; have := HK2.out; omega⟩, ⟨by (with_reducible repeat (first | apply Kd.aW | apply Kd.aX | apply Kd.bn)); exact abQ.out⟩, ⟨by repeat (first | (with_reducible first | exact HB.out | apply ai | apply ah | apply aj) | exact HB.out)⟩⟩
        ·rw [if_neg c7] at H; exact absurd H (by simp)
       ·rw [if_neg c6] at H; have oC : decide (iX < 32) = false := decide_eq_false c6; clear c6; have H' := af.mk H; clear H; go_wp2
        go_roundg k2
        case measure => have := HK1.out; have := HK2.out; omega
        case rel => exact ⟨(IP), (wrap64 (fD + 1)), (by first | rfl | (simp; done) | (simp [*]; done) | (simp; omega)), H', ⟨by have := HK1.out; have := HK2.out; omega⟩, ⟨by (with_reducible repeat (first | apply Kd.aW | apply Kd.aX | apply Kd.bn)); exact iI.out⟩, ⟨by repeat (first | (with_reducible first | exact HB.out | apply ai | apply ah | apply aj) | exact HB.out)⟩⟩
    ·rw [if_neg c5] at H; exact absurd H (by simp)
   ·rw [if_neg c4] at H; have jR : decide (fD < (l0.length : Int)) = false := decide_eq_false c4; clear c4; replace H := Option.bind_eq_some_iff.mp H; obtain ⟨t234, A90, H⟩ := H; replace H : (some t234) = some r := H; have A9 := af.mk A90; clear A90; obtain rfl := Option.some.inj H; obtain ⟨Yk, Yl, Ym⟩ := Kd.bQ iI.out; subst Ym; go_wp2_with (first | ((with_reducible refine aZ (f := 98) rfl ?_); refine dG (some 31) rfl rfl Try.func98 (by kernel_rfl) rfl #[.slice Yk dH.length Yl] rfl (by (try simp only [List.map_toArray, List.map_cons, List.map_nil]); first | done | rfl | (simp only [List.length_drop, List.length_take]; rfl)) ?_; (with_reducible refine (bX.calls k1 (fun k_ => some k_ = (.slice Yk dH.length Yl : Value).ownBlock) _ _ dH t234 _ ?dQ A9.out).mono ?_); (case dQ => exact Kd.R_V (Kd.kR rfl (iI.out))); rintro e w11 ⟨aln, rfl, ho0, hb⟩; refine ⟨_, rfl, ?_⟩; have n0_ := af.mk (Kd.dE (by (with_reducible repeat (first | apply Kd.aW | apply Kd.aX | apply Kd.bn)); exact iI.out) hb); have n1_ := af.mk (Kd.lU (Kd.iB (ok' := fun k_ => (w.heap.size ≤ k_)) ho0 (fun k_ hk_ => Or.elim hk_ (fun hs_ => ((iI.out).1 k_ hs_.symm)) (fun hn_ => (Nat.le_trans (az (by repeat (first | (with_reducible first | exact HB.out | apply ai | apply ah | apply aj) | exact HB.out))) hn_)))) (az (by repeat (first | (with_reducible first | exact HB.out | apply ai | apply ah | apply aj) | exact HB.out)))); have n2_ := af.mk (aA (by repeat (first | (with_reducible first | exact HB.out | apply ai | apply ah | apply aj) | exact HB.out)) hb); clear iI; clear HB; have iI := n0_; have abR := n1_; have HB := n2_; clear n0_ n1_ n2_; (try clear hb); (try clear hb2); (try clear hk); (try clear hi); (try clear ho0))); go_ret; exact ⟨_, by first | rfl | (simp [aD, aG] <;> rfl) | (simp [*, aD, aG] <;> rfl), by (with_reducible repeat (first | apply Kd.jg | apply Kd.jh | apply Kd.kz)); exact abR.out, by repeat (first | (with_reducible first | exact HB.out | apply ai | apply ah | apply aj) | exact HB.out)⟩
end Go.Proofs.Ytkgeihbcikiedaa.P
