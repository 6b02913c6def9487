/- The contracts of slipstickref07_Start, slipstickref01_cut, slipstickref01_Of that are used here, at all inputs where their Lean functions tell a result; cut out of what a changed copy of the kit's print wrote. -/
import Derived.Test.YtkgeihbcikiedaaPx0
namespace Go.Proofs.Ytkgeihbcikiedaa.P
open Go.RowKit Go.Proofs.YtkgeihbcikiedaaW.PrintWords Go.Proofs.YtkgeihbcikiedaaW.PrintLast Go.Proofs.YtkgeihbcikiedaaW.PrintMore
attribute [local go_sem] dM dN eu eB dx dz dO dP
set_option linter.unusedVariables false
set_option linter.unusedSimpArgs false
def bM.l0 : Nat → List Int → Int → List (S92) → List (S94) → List (S94) → Option (List Int)
 | 0, _, _, _, _, _ => none
 | k + 1, x3, x4, uh, Kn, Ko => if x4 < (x3.length : Int) then (if 0 ≤ x4 then (if x4 < (uh.length : Int) then (if ((aM uh x4).f0) = 7 then (bM.l0 k (x3.set (x4 : Int).toNat ((aM uh x4).f2)) (wrap64 (x4 + 1)) uh Kn Ko) else (bM.l0 k x3 (wrap64 (x4 + 1)) uh Kn Ko)) else (none)) else (none)) else (some x3)
def bM.f (k : Nat) (aC : List (S92)) (aZ : List (S94)) (bq : List (S94)) : Option (List Int) := if 0 ≤ (aC.length : Int) then (if ((aC.length : Int) : Int).toNat ≤ 35184372088832 then (bM.l0 k (List.replicate ((aC.length : Int) : Int).toNat 0) 0 aC aZ bq) else (none)) else (none)
set_option maxHeartbeats 8000000 in
set_option maxRecDepth 100000 in
theorem bM.calls (k : Nat) (ed : Option Addr) (dF : Nat) (aC : List (S92)) (dK : Option Addr) (dG : Nat) (aZ : List (S94)) (dR : Option Addr) (dH : Nat) (bq : List (S94)) (r : List Int) (w : World) (lH : Kd.C k92 w ed aC.length aC) (lI : aC.length ≤ dF) (lJ : Kd.C k94 w dK aZ.length aZ) (lK : aZ.length ≤ dG) (lL : Kd.C k94 w dR bq.length bq) (lM : bq.length ≤ dH) (h : bM.f k aC aZ bq = some r) :
 Calls Try.prog 74 #[.agg #[.slice ed aC.length dF, .slice dK aZ.length dG, .slice dR bq.length dH]] w fun e w' => ∃ v0_ : Value, e = .returned (v0_) ∧ Kd.R (Kd.int .i64) 3 w' w.heap.size (fun _ => True) v0_ r ∧ Below w.heap.size w w' := by
 have BB := Try.underlying55; have jS := af.mk lH; have qG := af.mk lI; clear lH lI; have nN := af.mk lJ; have qH := af.mk lK; clear lJ lK; have nO := af.mk lL; have qI := af.mk lM; clear lL lM; have HB := af.mk (Below.refl w.heap.size w); have H : (if 0 ≤ (aC.length : Int) then (if ((aC.length : Int) : Int).toNat ≤ 35184372088832 then (bM.l0 k (List.replicate ((aC.length : Int) : Int).toNat 0) 0 aC aZ bq) else (none)) else (none)) = some r := h; clear h
 by_cases c2 : 0 ≤ (aC.length : Int)
 ·rw [if_pos c2] at H; have Ih := eq_true c2; have XY : decide (0 ≤ (aC.length : Int)) = true := decide_eq_true c2; clear c2
  by_cases c3 : ((aC.length : Int) : Int).toNat ≤ 35184372088832
  ·rw [if_pos c3] at H; have lh := eq_true c3; have si : decide (((aC.length : Int) : Int).toNat ≤ 35184372088832) = true := decide_eq_true c3; clear c3
   obtain ⟨abI, ES⟩ : ∃ y_ : List Int, y_ = (List.replicate ((aC.length : Int) : Int).toNat 0) := ⟨_, rfl⟩
   replace H : (bM.l0 k abI 0 aC aZ bq) = some r := by first | (rw [ES]; with_reducible exact H) | (have H2_ := (Option.bind_some _ _).symm.trans H; rw [ES]; with_reducible exact H2_) | (have H2_ := (Option.bind_some _ _).symm.trans H; with_reducible exact H2_) | with_reducible exact H | (rw [ES]; exact H) | exact H
   have V5 := af.mk ES; clear ES; have H' := af.mk H; clear H
   go_enter Try.func74, Try.ntmps74
   go_wp2_with (first | ((with_reducible refine bQ (N := 1) rfl ?_); refine di ?hg (N := 1) ?hd (cs := #[.slice ed aC.length dF, .slice dK aZ.length dG, .slice dR bq.length dH]) (t := 55) ?hr ?_; (case hd => rfl); (case hg => rfl); (case hr => first | (go_simp; done) | (go_simp; rfl)); intro nP hg w4 hbox hb; have n0_ := af.mk (az (by repeat (first | (with_reducible first | exact HB.out | apply ai | apply ah | apply ak) | exact HB.out)) hb); have n1_ := af.mk (hbox); have n2_ := af.mk ((by rw [hg]; exact (aD (by repeat (first | (with_reducible first | exact HB.out | apply ai | apply ah | apply ak) | exact HB.out))) : w.heap.size ≤ nP)); have n3_ := af.mk ((by rw [hg]; exact (aD (by repeat (first | (with_reducible first | exact HB.out | apply ai | apply ah | apply ak) | exact HB.out))) : w.heap.size ≤ nP)); clear HB; have HB := n0_; have iE := n1_; have akw := n2_; have BV := n3_; clear n0_ n1_ n2_ n3_; clear hb hbox hg; have XZ : w4.cell? ⟨nP, 0, none⟩ = some (.slice ed aC.length dF) := (aj iE.out 0).trans rfl; have X5 : w4.cell? ⟨nP, 1, none⟩ = some (.slice dK aZ.length dG) := (aj iE.out 1).trans rfl; have X6 : w4.cell? ⟨nP, 2, none⟩ = some (.slice dR bq.length dH) := (aj iE.out 2).trans rfl; have X7 := au iE.out 0; have Ya := au iE.out 1; have Yb := au iE.out 2) | ((with_reducible refine bQ (N := 8) rfl ?_); refine Kd.sU (Kd.int .i64) _ 3 rfl (N := 8) rfl 44 _ _ rfl (aC.length : Int) rfl rfl Try.underlying44 (.int .i64 0) 8 info3 rfl (by decide) (by omega) 0 (ok := fun _ => True) (okp := fun _ => True) rfl (fun _ hk => hk) trivial (of_decide_eq_true (by first | (with_reducible assumption) | assumption)) (Nat.le_trans (Nat.mul_le_mul_right _ (of_decide_eq_true (by first | (with_reducible assumption) | assumption) : (aC.length : Int).toNat ≤ 35184372088832)) (by omega)) (Below.refl _ _) (Nat.le_refl _) ?_; intro aiq w6 ho7 hb hg_ hnew_; clear hg_ hnew_; (first | rw [← V5.out] at ho7 | (simp only [Int.reduceToNat] at ho7; rw [← V5.out] at ho7)); have n0_ := af.mk (Kd.dW ho7 (aD (by repeat (first | (with_reducible first | exact HB.out | apply ai | apply ah | apply ak | refine ay ?_ BV.out) | exact HB.out)))); have n1_ := af.mk (bf (g := nP) (o := .cells #[.slice ed aC.length dF, .slice dK aZ.length dG, .slice dR bq.length dH] 55 (0, 0)) (by (with_reducible repeat (first | refine aH ?_ _ | refine aA ?_ | refine aI ?_ _)); exact iE.out) hb); have n2_ := af.mk (az (by repeat (first | (with_reducible first | exact HB.out | apply ai | apply ah | apply ak | refine ay ?_ BV.out) | exact HB.out)) hb); clear iE; clear HB; have abJ := n0_; have iE := n1_; have HB := n2_; clear n0_ n1_ n2_; clear hb ho7))
   go_loopg [4] k (fun kq v4 w' => ∃ (eH : List Int) (fB : Int), v4 = .int .i64 fB ∧ af (bM.l0 kq eH fB aC aZ bq = some r) ∧ af (kq ≤ k) ∧ af (Kd.R (Kd.int .i64) 3 w' w.heap.size (fun _ => True) aiq eH) ∧ af (w'.heap[nP]? = some (.cells #[(.slice ed aC.length dF), (.slice dK aZ.length dG), (.slice dR bq.length dH)] 55 (0, 0))) ∧ af (Below w.heap.size w w'))
   case atStart => exact ⟨(abI), (0), (by first | rfl | (simp; done) | (simp [*]; done) | (simp; omega)), H', ⟨Nat.le_refl _⟩, ⟨by (with_reducible repeat (first | apply Kd.bi | apply Kd.bn | apply Kd.bD)); exact abJ.out⟩, ⟨by (with_reducible repeat (first | refine aH ?_ _ | refine aA ?_ | refine aI ?_ _)); exact iE.out⟩, ⟨by repeat (first | (with_reducible first | exact HB.out | apply ai | apply ah | apply ak | refine ay ?_ BV.out) | exact HB.out)⟩⟩
   case round =>
    clear H'
    try clear c2
    try clear Ih
    try clear XY
    try clear p2
    try clear c3
    try clear lh
    try clear si
    try clear c7
    try clear XZ
    try clear X5
    try clear X6
    try clear X7
    try clear Ya
    try clear Yb
    obtain ⟨eH, fB, rfl, HA, HK1, gT, iE, HB⟩ := hrel
    cases gk with
    | zero => exact absurd HA.out (by simp [bM.l0])
    | succ k1 =>
     have H := HA.out; clear HA; simp only [bM.l0] at H
     by_cases c8 : fB < (eH.length : Int)
     ·rw [if_pos c8] at H; have ME : decide (fB < (eH.length : Int)) = true := decide_eq_true c8; clear c8
      by_cases c9 : 0 ≤ fB
      ·rw [if_pos c9] at H; have vR : decide (0 ≤ fB) = true := decide_eq_true c9; clear c9
       by_cases c10 : fB < (aC.length : Int)
       ·rw [if_pos c10] at H; have yN : decide (fB < (aC.length : Int)) = true := decide_eq_true c10; clear c10
        by_cases c11 : ((aM aC fB).f0) = 7
        ·rw [if_pos c11] at H; have qj : (((aM aC fB).f0) == 7) = true := beq_iff_eq.mpr c11; have V6 : (((aM aC fB).f0) != 7) = false := bne_eq_false_iff_eq.mpr c11; clear c11
         obtain ⟨Yc, ET⟩ : ∃ y_ : List Int, y_ = (eH.set (fB : Int).toNat ((aM aC fB).f2)) := ⟨_, rfl⟩
         replace H : (bM.l0 k1 Yc (wrap64 (fB + 1)) aC aZ bq) = some r := by first | (rw [ET]; with_reducible exact H) | (have H2_ := (Option.bind_some _ _).symm.trans H; rw [ET]; with_reducible exact H2_) | (have H2_ := (Option.bind_some _ _).symm.trans H; with_reducible exact H2_) | with_reducible exact H | (rw [ET]; exact H) | exact H
         have abK := af.mk ET; clear ET; have H' := af.mk H; clear H; obtain ⟨alz, air, ais⟩ := Kd.bL gT.out; subst ais; have afM : wr.cell? ⟨nP, 0, none⟩ = some (.slice ed aC.length dF) := (aj iE.out 0).trans rfl; have afN : wr.cell? ⟨nP, 1, none⟩ = some (.slice dK aZ.length dG) := (aj iE.out 1).trans rfl; have afO : wr.cell? ⟨nP, 2, none⟩ = some (.slice dR bq.length dH) := (aj iE.out 2).trans rfl; have afP := au iE.out 0; have afQ := au iE.out 1; have afR := au iE.out 2; have Ii : 0 ≤ (fB : Int) := of_decide_eq_true (by first | (with_reducible assumption) | assumption); have Ij : fB < (aC.length : Int) := of_decide_eq_true (by first | (with_reducible assumption) | assumption); obtain ⟨OG, e217, oV, oW, oZ, o5⟩ := lY jS.out fB Ii Ij; cases e217; replace oV := (HB.out.cell (World.block_lt_of_cell? w _ oV)).trans oV; replace oW := (HB.out.cell (World.block_lt_of_cell? w _ oW)).trans oW; replace oZ := (HB.out.cell (World.block_lt_of_cell? w _ oZ)).trans oZ; replace o5 := (HB.out.cell (World.block_lt_of_cell? w _ o5)).trans o5; replace Ii := eq_true Ii; replace Ij := eq_true Ij; have Yd : 0 ≤ (fB : Int) := of_decide_eq_true (by first | (with_reducible assumption) | assumption); have Ye : fB < (aC.length : Int) := of_decide_eq_true (by first | (with_reducible assumption) | assumption); obtain ⟨abL, ait, CK, CL, CO, CP⟩ := lY jS.out fB Yd Ye
         obtain rfl : OG = abL := (by injection ait)
         replace CK := (HB.out.cell (World.block_lt_of_cell? w _ CK)).trans CK; replace CL := (HB.out.cell (World.block_lt_of_cell? w _ CL)).trans CL; replace CO := (HB.out.cell (World.block_lt_of_cell? w _ CO)).trans CO; replace CP := (HB.out.cell (World.block_lt_of_cell? w _ CP)).trans CP; replace Yd := eq_true Yd; replace Ye := eq_true Ye; have p12 : 0 ≤ (fB : Int) := of_decide_eq_true (by first | (with_reducible assumption) | assumption); have q12 : (fB : Int) < ((eH.length : Int) : Int) := of_decide_eq_true (by first | (with_reducible assumption) | assumption); obtain ⟨Yf, Yg, Tc, abM, aiu, alA, abN⟩ := Kd.kz gT.out (by omega)
         (first | cases Tc | (injection Tc with ea_ en_ ec_; (first | subst ea_ | (injection ea_ with ea_; subst ea_)); subst ec_; clear en_))
         have aiv := af.mk abM; have alB := af.mk abN; clear abM aiu abN; obtain ⟨aiw, aix⟩ := Kd.fP 0 gT.out (fB : Int) p12 q12; replace p12 := eq_true p12; replace q12 := eq_true q12; have Yh := Kd.ni gT.out (fB : Int) ((aM aC fB).f2); go_wp2_with (first | ((with_reducible refine gu (t := 3) (p := 30) rfl ?_); refine fK (t := 3) (p := 30) (v := ?aiy) (w1 := (wr.setCell ⟨Yf, (fB : Int).toNat, none⟩ (.int .i64 ((aM aC fB).f2)))) ?hg ?ho ?hn ?hr ?_; (case ho => rfl); (case hg => rfl); (case hn => rfl); (case hr => first | (go_simp; done) | (go_simp; rfl)); intro w16 hw; have hg : wr.grownBy w16 (some Yf) := (by rw [hw]; exact Yh.2); have hp_ : Kd.R (Kd.int .i64) 3 w16 w.heap.size (fun _ => True) (.slice (some ⟨Yf, 0, none⟩) eH.length air) Yc := (by rw [hw, abK.out]; exact Yh.1); clear Yh; have n0_ := af.mk (hp_); have n1_ := af.mk (fA (g := nP) (o := .cells #[.slice (some OG) aC.length dF, .slice dK aZ.length dG, .slice dR bq.length dH] 55 (0, 0)) (by (with_reducible repeat (first | refine aH ?_ _ | refine aA ?_ | refine aI ?_ _)); exact iE.out) hg (Kd.mi gT.out iE.out (by decide))); have n2_ := af.mk ((by rw [hw]; exact ay (HB.out) aiv.out : Below w.heap.size w w16)); clear gT; clear iE; clear HB; have gT := n0_; have iE := n1_; have HB := n2_; clear n0_ n1_ n2_; clear hg hw hp_))
         go_roundg k1
         case measure => have := HK1.out; omega
         case rel => exact ⟨(Yc), (wrap64 (fB + 1)), (by first | rfl | (simp; done) | (simp [*]; done) | (simp; omega)), H', ⟨by have := HK1.out; omega⟩, ⟨by (with_reducible repeat (first | apply Kd.bi | apply Kd.bn | apply Kd.bD)); exact gT.out⟩, ⟨by (with_reducible repeat (first | refine aH ?_ _ | refine aA ?_ | refine aI ?_ _)); exact iE.out⟩, ⟨by repeat (first | (with_reducible first | exact HB.out | apply ai | apply ah | apply ak | refine ay ?_ BV.out) | exact HB.out)⟩⟩
        ·rw [if_neg c11] at H; have qj : (((aM aC fB).f0) == 7) = false := beq_eq_false_iff_ne.mpr c11; have V6 : (((aM aC fB).f0) != 7) = true := bne_iff_ne.mpr c11; have H' := af.mk H; clear H; obtain ⟨abO, Td, EU⟩ := Kd.bL gT.out; subst EU; have CQ : wr.cell? ⟨nP, 0, none⟩ = some (.slice ed aC.length dF) := (aj iE.out 0).trans rfl; have CR : wr.cell? ⟨nP, 1, none⟩ = some (.slice dK aZ.length dG) := (aj iE.out 1).trans rfl; have CS : wr.cell? ⟨nP, 2, none⟩ = some (.slice dR bq.length dH) := (aj iE.out 2).trans rfl; have CU := au iE.out 0; have CV := au iE.out 1; have CW := au iE.out 2; have Ii : 0 ≤ (fB : Int) := of_decide_eq_true (by first | (with_reducible assumption) | assumption); have Ij : fB < (aC.length : Int) := of_decide_eq_true (by first | (with_reducible assumption) | assumption); obtain ⟨OG, e217, oV, oW, oZ, o5⟩ := lY jS.out fB Ii Ij; cases e217; replace oV := (HB.out.cell (World.block_lt_of_cell? w _ oV)).trans oV; replace oW := (HB.out.cell (World.block_lt_of_cell? w _ oW)).trans oW; replace oZ := (HB.out.cell (World.block_lt_of_cell? w _ oZ)).trans oZ; replace o5 := (HB.out.cell (World.block_lt_of_cell? w _ o5)).trans o5; replace Ii := eq_true Ii; replace Ij := eq_true Ij; go_wp2
         go_roundg k1
         case measure => have := HK1.out; omega
         case rel => exact ⟨(eH), (wrap64 (fB + 1)), (by first | rfl | (simp; done) | (simp [*]; done) | (simp; omega)), H', ⟨by have := HK1.out; omega⟩, ⟨by (with_reducible repeat (first | apply Kd.bi | apply Kd.bn | apply Kd.bD)); exact gT.out⟩, ⟨by (with_reducible repeat (first | refine aH ?_ _ | refine aA ?_ | refine aI ?_ _)); exact iE.out⟩, ⟨by repeat (first | (with_reducible first | exact HB.out | apply ai | apply ah | apply ak | refine ay ?_ BV.out) | exact HB.out)⟩⟩
       ·rw [if_neg c10] at H; exact absurd H (by simp)
      ·rw [if_neg c9] at H; exact absurd H (by simp)
     ·rw [if_neg c8] at H; have ME : decide (fB < (eH.length : Int)) = false := decide_eq_false c8; clear c8; obtain rfl := Option.some.inj H; obtain ⟨alC, alD, aiz⟩ := Kd.bL gT.out; subst aiz; go_wp2; go_ret; exact ⟨_, by first | rfl | (simp [aV, aW] <;> rfl) | (simp [*, aV, aW] <;> rfl), by (with_reducible repeat (first | apply Kd.bi | apply Kd.bn | apply Kd.bD)); exact gT.out, by repeat (first | (with_reducible first | exact HB.out | apply ai | apply ah | apply ak | refine ay ?_ BV.out) | exact HB.out)⟩
  ·rw [if_neg c3] at H; exact absurd H (by simp)
 ·rw [if_neg c2] at H; exact absurd H (by simp)
def bV.l0 : Nat → List Bool → Int → Option (List Bool)
 | 0, _, _ => none
 | k + 1, x0, x3 => if x3 > 0 then (if 0 ≤ (wrap64 (x3 - 1)) then (if (wrap64 (x3 - 1)) < (x0.length : Int) then (if (j4 false x0 (wrap64 (x3 - 1)) = true) then (if 0 ≤ x3 then (if x3 ≤ (x0.length : Int) then (some (x0.take (x3 : Int).toNat)) else (none)) else (none)) else (bV.l0 k x0 (wrap64 (x3 - 1)))) else (none)) else (none)) else (if 0 ≤ x3 then (if x3 ≤ (x0.length : Int) then (some (x0.take (x3 : Int).toNat)) else (none)) else (none))
def bV.f (k : Nat) (l0 : List Bool) : Option (List Bool) := bV.l0 k l0 (l0.length : Int)
set_option maxHeartbeats 8000000 in
set_option maxRecDepth 100000 in
theorem bV.calls (k : Nat) (P0_ : Nat → Prop) (A0 : Option Addr) (c0 : Nat) (l0 : List Bool) (r : List Bool) (w : World) (hs0 : Kd.V Kd.bool 4 w w.heap.size (fun k_ => P0_ k_) (.slice A0 l0.length c0) l0) (h : bV.f k l0 = some r) :
 Calls Try.prog 98 #[.slice A0 l0.length c0] w fun e w' => ∃ v0_ : Value, e = .returned (v0_) ∧ Kd.V Kd.bool 4 w' w.heap.size (fun k_ => (P0_ k_ ∨ w.heap.size ≤ k_)) v0_ r ∧ Below w.heap.size w w' := by
 have HO0 := af.mk (show Kd.V Kd.bool 4 w w.heap.size (fun k_ => (P0_ k_ ∨ w.heap.size ≤ k_)) (.slice A0 l0.length c0) l0 from Kd.j6 hs0 (fun k_ hk => .inl hk)); have HB := af.mk (Below.refl w.heap.size w); have H : (bV.l0 k l0 (l0.length : Int)) = some r := h; clear h; have H' := af.mk H; clear H
 go_enter Try.func98, Try.ntmps98
 go_wp2
 go_loopg [3] k (fun kq v3 w' => ∃ (eH : Int), v3 = .int .i64 eH ∧ af (bV.l0 kq l0 eH = some r) ∧ af (kq ≤ k) ∧ af (Kd.V Kd.bool 4 w' w.heap.size (fun k_ => (P0_ k_ ∨ w.heap.size ≤ k_)) (.slice A0 l0.length c0) l0) ∧ af (Below w.heap.size w w'))
 case atStart => exact ⟨((l0.length : Int)), (by first | rfl | (simp; done) | (simp [*]; done) | (simp; omega)), H', ⟨Nat.le_refl _⟩, ⟨by (with_reducible repeat (first | apply Kd.mo | apply Kd.mD | apply Kd.o6)); exact HO0.out⟩, ⟨by repeat (first | (with_reducible first | exact HB.out | apply ai | apply ah | apply ak) | exact HB.out)⟩⟩
 case round =>
  clear H'; obtain ⟨eH, rfl, HA, HK1, Ik, HB⟩ := hrel
  cases gk with
  | zero => exact absurd HA.out (by simp [bV.l0])
  | succ k1 =>
   have H := HA.out; clear HA; simp only [bV.l0] at H
   by_cases c2 : eH > 0
   ·rw [if_pos c2] at H; have Ih : decide (0 < eH) = true := decide_eq_true c2; clear c2
    obtain ⟨ji3, xJ⟩ : ∃ j_ : Int, (wrap64 (eH - 1)) = j_ := ⟨_, rfl⟩
    replace H : (if 0 ≤ (ji3) then (if (ji3) < (l0.length : Int) then (if (j4 false l0 (ji3) = true) then (if 0 ≤ eH then (if eH ≤ (l0.length : Int) then (some (l0.take (eH : Int).toNat)) else (none)) else (none)) else (bV.l0 k1 l0 ji3)) else (none)) else (none)) = some r := by first | (rw [xJ] at H; exact H) | (simp only [xJ] at H ⊢; exact H)
    have akx : (IntKind.i64.wrap (eH - 1)) = ji3 := (aG _).trans xJ
    by_cases c4 : 0 ≤ (ji3)
    ·rw [if_pos c4] at H; have lZ : decide (0 ≤ (ji3)) = true := decide_eq_true c4; clear c4
     by_cases c5 : (ji3) < (l0.length : Int)
     ·rw [if_pos c5] at H; have sV : decide ((ji3) < (l0.length : Int)) = true := decide_eq_true c5; clear c5
      obtain ⟨bq6, Yi⟩ : ∃ b_ : Bool, b_ = (j4 false l0 (ji3)) := ⟨_, rfl⟩
      replace H : (if (bq6 = true) then (if 0 ≤ eH then (if eH ≤ (l0.length : Int) then (some (l0.take (eH : Int).toNat)) else (none)) else (none)) else (bV.l0 k1 l0 ji3)) = some r := by rw [← Yi] at H; exact H
      have abP := af.mk Yi; clear Yi
      by_cases c7 : (bq6 = true)
      ·subst c7
       have H1 : (if 0 ≤ eH then (if eH ≤ (l0.length : Int) then (some (l0.take (eH : Int).toNat)) else (none)) else (none)) = some r := by rw [if_pos rfl] at H; exact H
       clear H; have H := H1; clear H1
       by_cases c8 : 0 ≤ eH
       ·rw [if_pos c8] at H; have ME := eq_true c8; have Te : decide (0 ≤ eH) = true := decide_eq_true c8; clear c8
        by_cases c9 : eH ≤ (l0.length : Int)
        ·rw [if_pos c9] at H; have vR := eq_true c9; have OH : decide (eH ≤ (l0.length : Int)) = true := decide_eq_true c9; clear c9
         obtain ⟨OI, EW⟩ : ∃ y_ : List Bool, y_ = (l0.take (eH : Int).toNat) := ⟨_, rfl⟩
         replace H : (some OI) = some r := by first | (rw [EW]; with_reducible exact H) | (have H2_ := (Option.bind_some _ _).symm.trans H; rw [EW]; with_reducible exact H2_) | (have H2_ := (Option.bind_some _ _).symm.trans H; with_reducible exact H2_) | with_reducible exact H | (rw [EW]; exact H) | exact H
         have V7 := af.mk EW; clear EW; obtain rfl := Option.some.inj H; have Il : 0 ≤ ((ji3) : Int) := of_decide_eq_true (by first | (with_reducible assumption) | assumption); have Im : (ji3) < (l0.length : Int) := of_decide_eq_true (by first | (with_reducible assumption) | assumption); obtain ⟨Kq, e220, CX⟩ := Kd.mE (Kd.jT Ik.out).2.2 (ji3) Il Im
         (try rw [← abP.out] at CX)
         cases e220; replace Il := eq_true Il; replace Im := eq_true Im; have q10 : (eH : Int) ≤ ((l0.length : Int) : Int) := of_decide_eq_true (by first | (with_reducible assumption) | assumption); obtain ⟨alE, V8, _, abQ, _⟩ := info_parts BX; have Kr : l0.length ≤ c0 := (Kd.jT Ik.out).2.1; have abR : Kd.F Kd.bool _ _ (some Kq) l0.length l0 := (Kd.MF (base := w.heap.size) Ik.out).2.2; have Yj := yO (P := Try.prog) 38 4 .i64 Try.underlying38 V8 (some Kq) l0.length c0 eH (of_decide_eq_true (by first | (with_reducible assumption) | assumption)) q10 Kr; have Yk := Kd.Io (m := (eH : Int).toNat) abR (by omega)
         have Yl : OI.length = (eH : Int).toNat := (by rw [V7.out, List.length_take]; omega)
         rw [← V7.out] at Yk; rw [← Yl] at Yj; have abS := af.mk (show Kd.V Kd.bool 4 _ w.heap.size _ (.slice (some Kq) OI.length c0) OI from Kd.Ip (by omega) Yk); have aky := af.mk (show OI.length ≤ c0 from by omega); clear Yk abR Kr V8 abQ; have alF := af.mk Yl; clear Yl; replace q10 := eq_true q10; go_wp2; go_ret; exact ⟨_, by first | rfl | (simp [aV, aW] <;> rfl) | (simp only [← xJ]; first | rfl | (simp [aV, aW] <;> rfl)) | (simp [*, aV, aW] <;> rfl), by (with_reducible repeat (first | apply Kd.mo | apply Kd.mD | apply Kd.o6)); exact abS.out, by repeat (first | (with_reducible first | exact HB.out | apply ai | apply ah | apply ak) | exact HB.out)⟩
        ·rw [if_neg c9] at H; exact absurd H (by simp)
       ·rw [if_neg c8] at H; exact absurd H (by simp)
      ·replace c7 := Bool.eq_false_iff.mpr c7; subst c7
       have H1 : (bV.l0 k1 l0 ji3) = some r := by rw [if_neg (show ¬ (false = true) by decide)] at H; exact H
       clear H; have H := H1; clear H1; have H' := af.mk H; clear H; have Il : 0 ≤ ((ji3) : Int) := of_decide_eq_true (by first | (with_reducible assumption) | assumption); have Im : (ji3) < (l0.length : Int) := of_decide_eq_true (by first | (with_reducible assumption) | assumption); obtain ⟨Kq, e220, CX⟩ := Kd.mE (Kd.jT Ik.out).2.2 (ji3) Il Im
       (try rw [← abP.out] at CX)
       cases e220; replace Il := eq_true Il; replace Im := eq_true Im; go_wp2
       go_roundg k1
       case measure => have := HK1.out; omega
       case rel => exact ⟨(ji3), (by first | rfl | (simp; done) | (simp only [← xJ] <;> (first | rfl | simp)) | (simp [*]; done) | (simp; omega)), H', ⟨by have := HK1.out; omega⟩, ⟨by (with_reducible repeat (first | apply Kd.mo | apply Kd.mD | apply Kd.o6)); exact Ik.out⟩, ⟨by repeat (first | (with_reducible first | exact HB.out | apply ai | apply ah | apply ak) | exact HB.out)⟩⟩
     ·rw [if_neg c5] at H; exact absurd H (by simp)
    ·rw [if_neg c4] at H; exact absurd H (by simp)
   ·rw [if_neg c2] at H; have Ih : decide (0 < eH) = false := decide_eq_false c2; clear c2
    by_cases c11 : 0 ≤ eH
    ·rw [if_pos c11] at H; have qj := eq_true c11; have V6 : decide (0 ≤ eH) = true := decide_eq_true c11; clear c11
     by_cases c12 : eH ≤ (l0.length : Int)
     ·rw [if_pos c12] at H; have ui := eq_true c12; have Kt : decide (eH ≤ (l0.length : Int)) = true := decide_eq_true c12; clear c12
      obtain ⟨OJ, EX⟩ : ∃ y_ : List Bool, y_ = (l0.take (eH : Int).toNat) := ⟨_, rfl⟩
      replace H : (some OJ) = some r := by first | (rw [EX]; with_reducible exact H) | (have H2_ := (Option.bind_some _ _).symm.trans H; rw [EX]; with_reducible exact H2_) | (have H2_ := (Option.bind_some _ _).symm.trans H; with_reducible exact H2_) | with_reducible exact H | (rw [EX]; exact H) | exact H
      have V9 := af.mk EX; clear EX; obtain rfl := Option.some.inj H; have q13 : (eH : Int) ≤ ((l0.length : Int) : Int) := of_decide_eq_true (by first | (with_reducible assumption) | assumption); obtain ⟨alG, Wd, _, abT, _⟩ := info_parts BX; have Ku : l0.length ≤ c0 := (Kd.jT Ik.out).2.1; have abU : Kd.F Kd.bool _ _ A0 l0.length l0 := (Kd.MF (base := w.heap.size) Ik.out).2.2; have Ym := yO (P := Try.prog) 38 4 .i64 Try.underlying38 Wd A0 l0.length c0 eH (of_decide_eq_true (by first | (with_reducible assumption) | assumption)) q13 Ku; have Yn := Kd.Io (m := (eH : Int).toNat) abU (by omega)
      have Yo : OJ.length = (eH : Int).toNat := (by rw [V9.out, List.length_take]; omega)
      rw [← V9.out] at Yn; rw [← Yo] at Ym; have abV := af.mk (show Kd.V Kd.bool 4 _ w.heap.size _ (.slice A0 OJ.length c0) OJ from Kd.Ip (by omega) Yn); have akz := af.mk (show OJ.length ≤ c0 from by omega); clear Yn abU Ku Wd abT; have alH := af.mk Yo; clear Yo; replace q13 := eq_true q13; go_wp2; go_ret; exact ⟨_, by first | rfl | (simp [aV, aW] <;> rfl) | (simp [*, aV, aW] <;> rfl), by (with_reducible repeat (first | apply Kd.mo | apply Kd.mD | apply Kd.o6)); exact abV.out, by repeat (first | (with_reducible first | exact HB.out | apply ai | apply ah | apply ak) | exact HB.out)⟩
     ·rw [if_neg c12] at H; exact absurd H (by simp)
    ·rw [if_neg c11] at H; exact absurd H (by simp)
mutual
def bG.l0 : Nat → List Int → List Bool → Int → Option (List Bool)
 | 0, _, _, _ => none
 | k + 1, x0, x3, x4 => if x4 < (x0.length : Int) then (if 0 ≤ x4 then (bG.l1 k x0 x3 x4 (rd x0 x4) 0) else (none)) else ((bV.f k x3).bind fun t234 => (some t234))
def bG.l1 : Nat → List Int → List Bool → Int → Int → Int → Option (List Bool)
 | 0, _, _, _, _, _ => none
 | k + 1, x0, x3, x4, x5, x6 => if x6 < 32 then (if x3.length < 140737488355328 then (bG.l1 k x0 (x3 ++ [((Int.tmod x5 2) == 1)]) x4 ((Int.tdiv x5 2) % 4294967296) (wrap64 (x6 + 1))) else (none)) else (bG.l0 k x0 x3 (wrap64 (x4 + 1)))
end
def bG.f (k : Nat) (l0 : List Int) : Option (List Bool) := bG.l0 k l0 (([] : List Bool)) 0
set_option maxHeartbeats 8000000 in
set_option maxRecDepth 100000 in
theorem bG.calls (k : Nat) (A0 : Option Addr) (c0 : Nat) (l0 : List Int) (r : List Bool) (w : World) (hr0 : Kd.C (Kd.int .u32) w A0 l0.length l0) (hc0 : l0.length ≤ c0) (h : bG.f k l0 = some r) :
 Calls Try.prog 88 #[.slice A0 l0.length c0] w fun e w' => ∃ v0_ : Value, e = .returned (v0_) ∧ Kd.V Kd.bool 4 w' w.heap.size (fun k_ => (w.heap.size ≤ k_)) v0_ r ∧ Below w.heap.size w w' := by
 have HR0 := af.mk hr0; have HC0 := af.mk hc0; clear hr0 hc0; have HB := af.mk (Below.refl w.heap.size w); have H : (bG.l0 k l0 (([] : List Bool)) 0) = some r := h; clear h
 obtain ⟨abW, EY⟩ : ∃ y_ : List Bool, y_ = (([] : List Bool)) := ⟨_, rfl⟩
 replace H : (bG.l0 k l0 abW 0) = some r := by first | (rw [EY]; with_reducible exact H) | (have H2_ := (Option.bind_some _ _).symm.trans H; rw [EY]; with_reducible exact H2_) | (have H2_ := (Option.bind_some _ _).symm.trans H; with_reducible exact H2_) | with_reducible exact H | (rw [EY]; exact H) | exact H
 have We := af.mk EY; clear EY; have H' := af.mk H; clear H
 go_enter Try.func88, Try.ntmps88
 go_wp2_with (first | ((with_reducible refine bQ (N := 7) rfl ?_); refine Kd.oz Kd.bool _ 4 ?hg (N := 7) ?hd (xs := ([] : List Bool)) (inner := []) (ok := fun _ => True) (okp := fun _ => True) ?hr ?hp (fun _ hk => hk) trivial (Below.refl _ _) (Nat.le_refl _) (by simp) ?_; (case hd => rfl); (case hg => rfl); (case hr => first | (go_simp; done) | (go_simp; rfl)); (case hp => exact (dX.none _ _)); intro v232 w2 ho3 hb hg_ hnew_; clear hg_ hnew_; (first | rw [← We.out] at ho3 | (simp only [Int.reduceToNat] at ho3; rw [← We.out] at ho3)); have n0_ := af.mk (Kd.dW (Kd.Yp (M := fun k_ => (w.heap.size ≤ k_)) ho3 (aD (by repeat (first | (with_reducible first | exact HB.out | apply ai | apply ah | apply ak) | exact HB.out))) (fun k_ h_ => h_)) (aD (by repeat (first | (with_reducible first | exact HB.out | apply ai | apply ah | apply ak) | exact HB.out)))); have n1_ := af.mk (az (by repeat (first | (with_reducible first | exact HB.out | apply ai | apply ah | apply ak) | exact HB.out)) hb); clear HB; have abX := n0_; have HB := n1_; clear n0_ n1_; clear hb ho3))
 go_loopg [3, 4] k (fun kq v3 v4 w' => ∃ (eH : List Bool) (fB : Int), v4 = .int .i64 fB ∧ af (bG.l0 kq l0 eH fB = some r) ∧ af (kq ≤ k) ∧ af (Kd.R Kd.bool 4 w' w.heap.size (fun k_ => (w.heap.size ≤ k_)) v3 eH) ∧ af (Below w.heap.size w w'))
 case atStart => exact ⟨(abW), (0), (by first | rfl | (simp; done) | (simp [*]; done) | (simp; omega)), H', ⟨Nat.le_refl _⟩, ⟨by (with_reducible repeat (first | apply Kd.bi | apply Kd.bn | apply Kd.bD)); exact Kd.dV abX.out (fun _ hk => hk.1)⟩, ⟨by repeat (first | (with_reducible first | exact HB.out | apply ai | apply ah | apply ak) | exact HB.out)⟩⟩
 case round =>
  clear H'
  try clear p2
  obtain ⟨eH, fB, rfl, HA, HK1, gT, HB⟩ := hrel
  cases gk with
  | zero => exact absurd HA.out (by simp [bG.l0])
  | succ k1 =>
   have H := HA.out; clear HA; simp only [bG.l0] at H
   by_cases c4 : fB < (l0.length : Int)
   ·rw [if_pos c4] at H; have lZ : decide (fB < (l0.length : Int)) = true := decide_eq_true c4; clear c4
    by_cases c5 : 0 ≤ fB
    ·rw [if_pos c5] at H; have sV : decide (0 ≤ fB) = true := decide_eq_true c5; clear c5; have H' := af.mk H; clear H; have Tf : 0 ≤ (fB : Int) := of_decide_eq_true (by first | (with_reducible assumption) | assumption); have Tg : fB < (l0.length : Int) := of_decide_eq_true (by first | (with_reducible assumption) | assumption); obtain ⟨akA, e237, xQ⟩ := Kd.dA HR0.out fB Tf Tg; cases e237; replace xQ := (HB.out.cell (World.block_lt_of_cell? w _ xQ)).trans xQ; replace Tf := eq_true Tf; replace Tg := eq_true Tg; go_wp2
     go_loopg [3, 5, 6] k1 (fun kq v3 v5 v6 w' => ∃ (Iq : List Bool) (nZ : Int) (iF : Int), v5 = .int .u32 nZ ∧ v6 = .int .i64 iF ∧ af (bG.l1 kq l0 Iq fB nZ iF = some r) ∧ af (kq ≤ k1) ∧ af (Kd.R Kd.bool 4 w' w.heap.size (fun k_ => (w.heap.size ≤ k_)) v3 Iq) ∧ af (Below w.heap.size w w'))
     case atStart => exact ⟨(eH), (rd l0 fB), (0), (by first | rfl | (simp; done) | (simp [*]; done) | (simp; omega)), (by first | rfl | (simp; done) | (simp [*]; done) | (simp; omega)), H', ⟨Nat.le_refl _⟩, ⟨by (with_reducible repeat (first | apply Kd.bi | apply Kd.bn | apply Kd.bD)); exact gT.out⟩, ⟨by repeat (first | (with_reducible first | exact HB.out | apply ai | apply ah | apply ak) | exact HB.out)⟩⟩
     case round =>
      clear H'
      try clear p2
      try clear q2
      try clear hx2
      try clear c4
      try clear lZ
      try clear c5
      try clear sV
      try clear xQ
      try clear p2
      try clear Tf
      try clear Tg
      obtain ⟨Iq, nZ, iF, rfl, rfl, HA, HK2, gT, HB⟩ := hrel
      cases gk with
      | zero => exact absurd HA.out (by simp [bG.l1])
      | succ k2 =>
       have H := HA.out; clear HA; simp only [bG.l1] at H
       by_cases c6 : iF < 32
       ·rw [if_pos c6] at H; have qJ : decide (iF < 32) = true := decide_eq_true c6; clear c6
        by_cases c7 : Iq.length < 140737488355328
        ·rw [if_pos c7] at H; have Yq := af.mk c7; clear c7
         obtain ⟨abY, EZ⟩ : ∃ y_ : List Bool, y_ = (Iq ++ [((Int.tmod nZ 2) == 1)]) := ⟨_, rfl⟩
         replace H : (bG.l1 k2 l0 abY fB ((Int.tdiv nZ 2) % 4294967296) (wrap64 (iF + 1))) = some r := by first | (rw [EZ]; with_reducible exact H) | (have H2_ := (Option.bind_some _ _).symm.trans H; rw [EZ]; with_reducible exact H2_) | (have H2_ := (Option.bind_some _ _).symm.trans H; with_reducible exact H2_) | with_reducible exact H | (rw [EZ]; exact H) | exact H
         have abZ := af.mk EZ; clear EZ; have H' := af.mk H; clear H; go_wp2_with (first | ((with_reducible refine eZ (b := .append) (xs := #[.tmp 22, .tmp 26]) rfl ?_); at_builtin; refine Kd.jy Kd.bool (w0 := w) w.heap.size rfl (.tmp 22) (.tmp 26) 38 4 (.bool false) 1 rfl Try.underlying38 BX rfl (by decide) (by omega) u3 Iq ((Int.tmod nZ 2) == 1) [.bool ((Int.tmod nZ 2) == 1)] (fun k_ => (w.heap.size ≤ k_)) (fun _ => False) rfl rfl ?aP (fun _ hk => hk.elim) ?aF ?aO ?aB ?aS ?aL ?_; (case aP => exact rfl); (case aB => exact (by repeat (first | (with_reducible first | exact HB.out | apply ai | apply ah | apply ak) | exact HB.out))); (case aF => exact (fun k_ hk => (Nat.le_trans (aD (by repeat (first | (with_reducible first | exact HB.out | apply ai | apply ah | apply ak) | exact HB.out))) hk))); (case aO => exact (by (with_reducible repeat (first | apply Kd.bi | apply Kd.bn | apply Kd.bD)); exact gT.out)); (case aS => exact (aD (by repeat (first | (with_reducible first | exact HB.out | apply ai | apply ah | apply ak) | exact HB.out)))); (case aL => have := Yq.out; omega); intro alI w8 ho hb hg hat; rw [← abZ.out] at ho; have n0_ := af.mk (hb); have n1_ := af.mk (ho); clear HB; clear gT; have HB := n0_; have ab0 := n1_; clear n0_ n1_; clear ho hb hg hat))
         go_roundg k2
         case measure => have := HK1.out; have := HK2.out; omega
         case rel => exact ⟨(abY), ((Int.tdiv nZ 2) % 4294967296), (wrap64 (iF + 1)), (by first | rfl | (simp; done) | (simp [*]; done) | (simp; omega)), (by first | rfl | (simp; done) | (simp [*]; done) | (simp; omega)), H', ⟨by have := HK1.out; have := HK2.out; omega⟩, ⟨by (with_reducible repeat (first | apply Kd.bi | apply Kd.bn | apply Kd.bD)); exact ab0.out⟩, ⟨by repeat (first | (with_reducible first | exact HB.out | apply ai | apply ah | apply ak) | exact HB.out)⟩⟩
        ·rw [if_neg c7] at H; exact absurd H (by simp)
       ·rw [if_neg c6] at H; have qJ : decide (iF < 32) = false := decide_eq_false c6; clear c6; have H' := af.mk H; clear H; go_wp2
        go_roundg k2
        case measure => have := HK1.out; have := HK2.out; omega
        case rel => exact ⟨(Iq), (wrap64 (fB + 1)), (by first | rfl | (simp; done) | (simp [*]; done) | (simp; omega)), H', ⟨by have := HK1.out; have := HK2.out; omega⟩, ⟨by (with_reducible repeat (first | apply Kd.bi | apply Kd.bn | apply Kd.bD)); exact gT.out⟩, ⟨by repeat (first | (with_reducible first | exact HB.out | apply ai | apply ah | apply ak) | exact HB.out)⟩⟩
    ·rw [if_neg c5] at H; exact absurd H (by simp)
   ·rw [if_neg c4] at H; have lZ : decide (fB < (l0.length : Int)) = false := decide_eq_false c4; clear c4; replace H := Option.bind_eq_some_iff.mp H; obtain ⟨t234, A90, H⟩ := H; replace H : (some t234) = some r := H; have A9 := af.mk A90; clear A90; obtain rfl := Option.some.inj H; obtain ⟨ab1, ab2, aiA⟩ := Kd.bL gT.out; subst aiA; go_wp2_with (first | ((with_reducible refine dQ (f := 98) rfl ?_); refine gY (some 31) rfl rfl Try.func98 (by kernel_rfl) rfl #[.slice ab1 eH.length ab2] rfl (by (try simp only [List.map_toArray, List.map_cons, List.map_nil]); first | done | rfl | (simp only [List.length_drop, List.length_take]; rfl)) ?_; (with_reducible refine (bV.calls k1 (fun k_ => some k_ = (.slice ab1 eH.length ab2 : Value).ownBlock) _ _ eH t234 _ ?iG A9.out).mono ?_); (case iG => exact Kd.R_V (Kd.lD rfl (gT.out))); rintro e w11 ⟨alJ, rfl, ho0, hb⟩; refine ⟨_, rfl, ?_⟩; have n0_ := af.mk (Kd.dB (by (with_reducible repeat (first | apply Kd.bi | apply Kd.bn | apply Kd.bD)); exact gT.out) hb); have n1_ := af.mk (Kd.CY (Kd.j6 (ok' := fun k_ => (w.heap.size ≤ k_)) ho0 (fun k_ hk_ => Or.elim hk_ (fun hs_ => ((gT.out).1 k_ hs_.symm)) (fun hn_ => (Nat.le_trans (aD (by repeat (first | (with_reducible first | exact HB.out | apply ai | apply ah | apply ak) | exact HB.out))) hn_)))) (aD (by repeat (first | (with_reducible first | exact HB.out | apply ai | apply ah | apply ak) | exact HB.out)))); have n2_ := af.mk (az (by repeat (first | (with_reducible first | exact HB.out | apply ai | apply ah | apply ak) | exact HB.out)) hb); clear gT; clear HB; have gT := n0_; have ab3 := n1_; have HB := n2_; clear n0_ n1_ n2_; (try clear hb); (try clear hb2); (try clear hk); (try clear hi); (try clear ho0))); go_ret; exact ⟨_, by first | rfl | (simp [aV, aW] <;> rfl) | (simp [*, aV, aW] <;> rfl), by (with_reducible repeat (first | apply Kd.mo | apply Kd.mD | apply Kd.o6)); exact ab3.out, by repeat (first | (with_reducible first | exact HB.out | apply ai | apply ah | apply ak) | exact HB.out)⟩
end Go.Proofs.Ytkgeihbcikiedaa.P
