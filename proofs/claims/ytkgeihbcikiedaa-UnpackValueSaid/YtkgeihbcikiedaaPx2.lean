/- The contracts of slipstickref06_many, slipstickref06_Uses, slipstickref06_bit that are used here, at all inputs where their Lean functions tell a result; cut out of what a changed copy of the kit's print wrote. -/
import Derived.Test.YtkgeihbcikiedaaPx0
namespace Go.Proofs.Ytkgeihbcikiedaa.P
open Go.RowKit Go.Proofs.YtkgeihbcikiedaaW.PrintWords Go.Proofs.YtkgeihbcikiedaaW.PrintLast Go.Proofs.YtkgeihbcikiedaaW.PrintMore
attribute [local go_sem] eU eX fU fV dX dY eZ fo
set_option linter.unusedVariables false
set_option linter.unusedSimpArgs false
mutual
def ax.j0 : Nat → Int → Bool → Option (Int)
 | 0, _, _ => none
 | k + 1, x3, x4 => if x4 = true then (some 0) else (if x3 = 2 then (ax.j1 k x3 (x3 == 2)) else (ax.j1 k x3 (x3 == 7)))
def ax.j1 : Nat → Int → Bool → Option (Int)
 | 0, _, _ => none
 | k + 1, x3, x7 => if x7 = true then (some 1) else (if x3 = 3 then (ax.j2 k x3 (x3 == 3)) else (if x3 = 4 then (ax.j2 k x3 (x3 == 4)) else (ax.j2 k x3 (x3 == 5))))
def ax.j2 : Nat → Int → Bool → Option (Int)
 | 0, _, _ => none
 | k + 1, x3, x10 => if x10 = true then (some 2) else (if x3 = 6 then (some 3) else (some (-1)))
end
def ax.f (k : Nat) (a0 : Int) : Option (Int) := if a0 = 0 then (ax.j0 k a0 (a0 == 0)) else (ax.j0 k a0 (a0 == 1))
set_option maxHeartbeats 8000000 in
set_option maxRecDepth 100000 in
theorem ax.calls (k : Nat) (a0 : Int) (r : Int) (w : World) (h : ax.f k a0 = some r) :
 Calls Try.prog 87 #[.int .i64 a0] w fun e w' => e = .returned (.int .i64 r) ∧ bF w w' := by
 have H : (if a0 = 0 then (ax.j0 k a0 (a0 == 0)) else (ax.j0 k a0 (a0 == 1))) = some r := h; clear h; have HC2 := af.mk H; clear H
 go_enter Try.func87, Try.ntmps87
 go_upto_if 4 with (fail)
 go_cut [4] (fun v4 wc => ∃ (kq : Nat) (fD : Bool), v4 = .bool fD ∧ af (ax.j0 kq a0 fD = some r) ∧ af (kq ≤ k) ∧ bF w wc)
 case first =>
  have H := HC2.out; clear HC2
  by_cases c3 : a0 = 0
  ·rw [if_pos c3] at H; have ky : (a0 == 0) = true := beq_iff_eq.mpr c3; have nZ : (a0 != 0) = false := bne_eq_false_iff_eq.mpr c3; clear c3
   (first | rw [ky] | (simp only [aU, aV]; rw [ky]) | skip)
   have H' := af.mk H; clear H; go_wp2
   go_meet
   case rel => exact ⟨_, ((a0 == 0)), (by first | rfl | (simp; done) | (simp [*]; done) | (simp; omega)), H', ⟨by first | omega | exact Nat.le_refl _⟩, by repeat (first | exact bF.refl _ | apply bF.step)⟩
  ·rw [if_neg c3] at H; have ky : (a0 == 0) = false := beq_eq_false_iff_ne.mpr c3; have nZ : (a0 != 0) = true := bne_iff_ne.mpr c3
   (first | rw [ky] | (simp only [aU, aV]; rw [ky]) | skip)
   have H' := af.mk H; clear H; go_wp2
   go_meet
   case rel => exact ⟨_, ((a0 == 1)), (by first | rfl | (simp; done) | (simp [*]; done) | (simp; omega)), H', ⟨by first | omega | exact Nat.le_refl _⟩, by repeat (first | exact bF.refl _ | apply bF.step)⟩
 case rest =>
  clear HC2
  try clear p2
  try clear c3
  try clear ky
  try clear nZ
  obtain ⟨kq, fD, rfl, HA, HJ1, ⟨mc1, rfl⟩⟩ := hcut
  cases kq with
  | zero => exact absurd HA.out (by simp [ax.j0])
  | succ kj1 =>
   have H := HA.out; clear HA; simp only [ax.j0] at H
   by_cases c4 : fD = true
   ·subst c4
    have H1 : (some 0) = some r := by rw [if_pos rfl] at H; exact H
    clear H; have H := H1; clear H1; obtain rfl := Option.some.inj H; go_wp2; go_ret; exact ⟨by first | rfl | (simp; done) | (simp [*]; done), by repeat (first | exact bF.refl _ | apply bF.step)⟩
   ·replace c4 := Bool.eq_false_iff.mpr c4; subst c4
    have H1 : (if a0 = 2 then (ax.j1 kj1 a0 (a0 == 2)) else (ax.j1 kj1 a0 (a0 == 7))) = some r := by rw [if_neg (show ¬ (false = true) by decide)] at H; exact H
    clear H; have H := H1; clear H1; have HC5 := af.mk H; clear H
    go_upto_if 7 with (fail)
    go_cut [7] (fun v7 wc => ∃ (kq : Nat) (TE : Bool), v7 = .bool TE ∧ af (ax.j1 kq a0 TE = some r) ∧ af (kq ≤ kj1) ∧ bF w wc)
    case first =>
     have H := HC5.out; clear HC5
     by_cases c6 : a0 = 2
     ·rw [if_pos c6] at H; have oC : (a0 == 2) = true := beq_iff_eq.mpr c6; have Dq : (a0 != 2) = false := bne_eq_false_iff_eq.mpr c6; clear c6
      (first | rw [oC] | (simp only [aU, aV]; rw [oC]) | skip)
      have H' := af.mk H; clear H; go_wp2
      go_meet
      case rel => exact ⟨_, ((a0 == 2)), (by first | rfl | (simp; done) | (simp [*]; done) | (simp; omega)), H', ⟨by have := HJ1.out; first | omega | exact Nat.le_refl _⟩, by repeat (first | exact bF.refl _ | apply bF.step)⟩
     ·rw [if_neg c6] at H; have oC : (a0 == 2) = false := beq_eq_false_iff_ne.mpr c6; have Dq : (a0 != 2) = true := bne_iff_ne.mpr c6
      (first | rw [oC] | (simp only [aU, aV]; rw [oC]) | skip)
      have H' := af.mk H; clear H; go_wp2
      go_meet
      case rel => exact ⟨_, ((a0 == 7)), (by first | rfl | (simp; done) | (simp [*]; done) | (simp; omega)), H', ⟨by have := HJ1.out; first | omega | exact Nat.le_refl _⟩, by repeat (first | exact bF.refl _ | apply bF.step)⟩
    case rest =>
     clear HC5
     try clear c1
     try clear p2
     try clear c3
     try clear ky
     try clear nZ
     try clear c4
     try clear c6
     try clear oC
     try clear Dq
     try clear p2
     obtain ⟨kq, TE, rfl, HA, HJ4, ⟨mc4, rfl⟩⟩ := hcut
     cases kq with
     | zero => exact absurd HA.out (by simp [ax.j1])
     | succ kj4 =>
      have H := HA.out; clear HA; simp only [ax.j1] at H
      by_cases c7 : TE = true
      ·subst c7
       have H1 : (some 1) = some r := by rw [if_pos rfl] at H; exact H
       clear H; have H := H1; clear H1; obtain rfl := Option.some.inj H; go_wp2; go_ret; exact ⟨by first | rfl | (simp; done) | (simp [*]; done), by repeat (first | exact bF.refl _ | apply bF.step)⟩
      ·replace c7 := Bool.eq_false_iff.mpr c7; subst c7
       have H1 : (if a0 = 3 then (ax.j2 kj4 a0 (a0 == 3)) else (if a0 = 4 then (ax.j2 kj4 a0 (a0 == 4)) else (ax.j2 kj4 a0 (a0 == 5)))) = some r := by rw [if_neg (show ¬ (false = true) by decide)] at H; exact H
       clear H; have H := H1; clear H1; have HC8 := af.mk H; clear H
       go_upto_if 10 with (fail)
       go_cut [10] (fun v10 wc => ∃ (kq : Nat) (Ll : Bool), v10 = .bool Ll ∧ af (ax.j2 kq a0 Ll = some r) ∧ af (kq ≤ kj4) ∧ bF w wc)
       case first =>
        have H := HC8.out; clear HC8
        by_cases c9 : a0 = 3
        ·rw [if_pos c9] at H; have oO : (a0 == 3) = true := beq_iff_eq.mpr c9; have O9 : (a0 != 3) = false := bne_eq_false_iff_eq.mpr c9; clear c9
         (first | rw [oO] | (simp only [aU, aV]; rw [oO]) | skip)
         have H' := af.mk H; clear H; go_wp2
         go_meet
         case rel => exact ⟨_, ((a0 == 3)), (by first | rfl | (simp; done) | (simp [*]; done) | (simp; omega)), H', ⟨by have := HJ1.out; have := HJ4.out; first | omega | exact Nat.le_refl _⟩, by repeat (first | exact bF.refl _ | apply bF.step)⟩
        ·rw [if_neg c9] at H; have oO : (a0 == 3) = false := beq_eq_false_iff_ne.mpr c9; have O9 : (a0 != 3) = true := bne_iff_ne.mpr c9
         (first | rw [oO] | (simp only [aU, aV]; rw [oO]) | skip)
         by_cases c10 : a0 = 4
         ·rw [if_pos c10] at H; have rW : (a0 == 4) = true := beq_iff_eq.mpr c10; have Fg : (a0 != 4) = false := bne_eq_false_iff_eq.mpr c10; clear c10; have H' := af.mk H; clear H; go_wp2
          go_meet
          case rel => exact ⟨_, ((a0 == 4)), (by first | rfl | (simp; done) | (simp [*]; done) | (simp; omega)), H', ⟨by have := HJ1.out; have := HJ4.out; first | omega | exact Nat.le_refl _⟩, by repeat (first | exact bF.refl _ | apply bF.step)⟩
         ·rw [if_neg c10] at H; have rW : (a0 == 4) = false := beq_eq_false_iff_ne.mpr c10; have Fg : (a0 != 4) = true := bne_iff_ne.mpr c10; have H' := af.mk H; clear H; go_wp2
          go_meet
          case rel => exact ⟨_, ((a0 == 5)), (by first | rfl | (simp; done) | (simp [*]; done) | (simp; omega)), H', ⟨by have := HJ1.out; have := HJ4.out; first | omega | exact Nat.le_refl _⟩, by repeat (first | exact bF.refl _ | apply bF.step)⟩
       case rest =>
        clear HC8
        try clear c1
        try clear p2
        try clear c3
        try clear ky
        try clear nZ
        try clear c4
        try clear c6
        try clear oC
        try clear Dq
        try clear c7
        try clear c8
        try clear c9
        try clear oO
        try clear O9
        try clear c10
        try clear rW
        try clear Fg
        try clear p2
        obtain ⟨kq, Ll, rfl, HA, HJ7, ⟨mc7, rfl⟩⟩ := hcut
        cases kq with
        | zero => exact absurd HA.out (by simp [ax.j2])
        | succ kj7 =>
         have H := HA.out; clear HA; simp only [ax.j2] at H
         by_cases c11 : Ll = true
         ·subst c11
          have H1 : (some 2) = some r := by rw [if_pos rfl] at H; exact H
          clear H; have H := H1; clear H1; obtain rfl := Option.some.inj H; go_wp2; go_ret; exact ⟨by first | rfl | (simp; done) | (simp [*]; done), by repeat (first | exact bF.refl _ | apply bF.step)⟩
         ·replace c11 := Bool.eq_false_iff.mpr c11; subst c11
          have H1 : (if a0 = 6 then (some 3) else (some (-1))) = some r := by rw [if_neg (show ¬ (false = true) by decide)] at H; exact H
          clear H; have H := H1; clear H1
          by_cases c12 : a0 = 6
          ·rw [if_pos c12] at H; have tX : (a0 == 6) = true := beq_iff_eq.mpr c12; have KX : (a0 != 6) = false := bne_eq_false_iff_eq.mpr c12; clear c12; obtain rfl := Option.some.inj H; go_wp2; go_ret; exact ⟨by first | rfl | (simp; done) | (simp [*]; done), by repeat (first | exact bF.refl _ | apply bF.step)⟩
          ·rw [if_neg c12] at H; have tX : (a0 == 6) = false := beq_eq_false_iff_ne.mpr c12; have KX : (a0 != 6) = true := bne_iff_ne.mpr c12; obtain rfl := Option.some.inj H; go_wp2; go_ret; exact ⟨by first | rfl | (simp; done) | (simp [*]; done), by repeat (first | exact bF.refl _ | apply bF.step)⟩
def cK.f (k : Nat) (dh : Int) (bJ : Int) (bK : Int) (dx : Int) : Option (List Int) := (some (([bJ, bK, dx] : List Int) : List Int)).bind fun qJ => ((ax.f k dh).bind fun pE => (if 0 ≤ (mx pE 0) then (if (mx pE 0) ≤ (qJ.length : Int) then (some (qJ.take ((mx pE 0) : Int).toNat)) else (none)) else (none)))
set_option maxHeartbeats 8000000 in
set_option maxRecDepth 100000 in
theorem cK.calls (k : Nat) (dh : Int) (bJ : Int) (bK : Int) (dx : Int) (r : List Int) (w : World) (h : cK.f k dh bJ bK dx = some r) :
 Calls Try.prog 73 #[.agg #[.int .i64 dh, .int .i64 bJ, .int .i64 bK, .int .i64 dx]] w fun e w' => ∃ v0_ : Value, e = .returned (v0_) ∧ Kd.R (Kd.int .i64) 3 w' w.heap.size (fun _ => True) v0_ r ∧ Below w.heap.size w w' := by
 have Nf := Try.underlying92; have HB := af.mk (Below.refl w.heap.size w); have H : ((some (([bJ, bK, dx] : List Int) : List Int)).bind fun qJ => ((ax.f k dh).bind fun pE => (if 0 ≤ (mx pE 0) then (if (mx pE 0) ≤ (qJ.length : Int) then (some (qJ.take ((mx pE 0) : Int).toNat)) else (none)) else (none)))) = some r := h; clear h
 obtain ⟨qJ, FM⟩ : ∃ y_ : List Int, y_ = (([bJ, bK, dx] : List Int)) := ⟨_, rfl⟩
 replace H : ((ax.f k dh).bind fun pE => (if 0 ≤ (mx pE 0) then (if (mx pE 0) ≤ (qJ.length : Int) then (some (qJ.take ((mx pE 0) : Int).toNat)) else (none)) else (none))) = some r := by first | (rw [FM]; with_reducible exact H) | (have H2_ := (Option.bind_some _ _).symm.trans H; rw [FM]; with_reducible exact H2_) | (have H2_ := (Option.bind_some _ _).symm.trans H; with_reducible exact H2_) | with_reducible exact H | (rw [FM]; exact H) | exact H
 have WH := af.mk FM; clear FM; replace H := Option.bind_eq_some_iff.mp H; obtain ⟨pE, A20, H⟩ := H; replace H : (if 0 ≤ (mx pE 0) then (if (mx pE 0) ≤ (qJ.length : Int) then (some (qJ.take ((mx pE 0) : Int).toNat)) else (none)) else (none)) = some r := H; have A2 := af.mk A20; clear A20
 obtain ⟨ji3, l8⟩ : ∃ j_ : Int, (mx pE 0) = j_ := ⟨_, rfl⟩
 replace H : (if 0 ≤ (ji3) then (if (ji3) ≤ (qJ.length : Int) then (some (qJ.take ((ji3) : Int).toNat)) else (none)) else (none)) = some r := by first | (rw [l8] at H; exact H) | (simp only [l8] at H ⊢; exact H)
 (try rw [l8] at A2)
 (try (have aci : 0 ≤ ji3 := by (rw [← l8]; unfold mx; (repeat' split) <;> omega)))
 (try (have acj : 0 ≤ ji3 := by omega))
 have WI : (if pE < 0 then 0 else pE) = ji3 := l8
 by_cases c4 : 0 ≤ (ji3)
 ·rw [if_pos c4] at H; have jR := eq_true c4; have PD : decide (0 ≤ (ji3)) = true := decide_eq_true c4; clear c4
  by_cases c5 : (ji3) ≤ (qJ.length : Int)
  ·rw [if_pos c5] at H; have oW := eq_true c5; have NF : decide ((ji3) ≤ (qJ.length : Int)) = true := decide_eq_true c5; clear c5
   obtain ⟨ack, FN⟩ : ∃ y_ : List Int, y_ = (qJ.take ((ji3) : Int).toNat) := ⟨_, rfl⟩
   replace H : (some ack) = some r := by first | (rw [FN]; with_reducible exact H) | (have H2_ := (Option.bind_some _ _).symm.trans H; rw [FN]; with_reducible exact H2_) | (have H2_ := (Option.bind_some _ _).symm.trans H; with_reducible exact H2_) | with_reducible exact H | (rw [FN]; exact H) | exact H
   have WJ := af.mk FN; clear FN; obtain rfl := Option.some.inj H
   go_enter Try.func73, Try.ntmps73
   go_wp2_with (first | ((with_reducible refine bS (N := 1) rfl ?_); refine dw ?hg (N := 1) ?hd (cs := #[.int .i64 dh, .int .i64 bJ, .int .i64 bK, .int .i64 dx]) (t := 92) ?hr ?_; (case hd => rfl); (case hg => rfl); (case hr => first | (go_simp; done) | (go_simp; rfl)); intro qK hg w6 hbox hb; have n0_ := af.mk (aA (by repeat (first | (with_reducible first | exact HB.out | apply ai | apply ah | apply aj) | exact HB.out)) hb); have n1_ := af.mk (hbox); have n2_ := af.mk ((by rw [hg]; exact (az (by repeat (first | (with_reducible first | exact HB.out | apply ai | apply ah | apply aj) | exact HB.out))) : w.heap.size ≤ qK)); have n3_ := af.mk ((by rw [hg]; exact (az (by repeat (first | (with_reducible first | exact HB.out | apply ai | apply ah | apply aj) | exact HB.out))) : w.heap.size ≤ qK)); clear HB; have HB := n0_; have kT := n1_; have akk := n2_; have PE := n3_; clear n0_ n1_ n2_ n3_; clear hb hbox hg; have wh : w6.cell? ⟨qK, 0, none⟩ = some (.int .i64 dh) := (ak kT.out 0).trans rfl; have wu : w6.cell? ⟨qK, 1, none⟩ = some (.int .i64 bJ) := (ak kT.out 1).trans rfl; have ww : w6.cell? ⟨qK, 2, none⟩ = some (.int .i64 bK) := (ak kT.out 2).trans rfl; have I9 : w6.cell? ⟨qK, 3, none⟩ = some (.int .i64 dx) := (ak kT.out 3).trans rfl; have wy := au kT.out 0; have wz := au kT.out 1; have wB := au kT.out 2; have Ja := au kT.out 3) | ((with_reducible refine bS (N := 10) rfl ?_); refine Kd.oz (Kd.int .i64) _ 3 ?hg (N := 10) ?hd (xs := ([bJ, bK, dx] : List Int)) (inner := [.int .i64 bJ, .int .i64 bK, .int .i64 dx]) (ok := fun _ => True) (okp := fun _ => True) ?hr ?hp (fun _ hk => hk) trivial (Below.refl _ _) (Nat.le_refl _) (by simp) ?_; (case hd => rfl); (case hg => rfl); (case hr => first | (go_simp; done) | (go_simp; rfl)); (case hp => exact (eF.one (show Kd.M (Kd.int .i64) _ _ _ bJ [.int .i64 bJ] from rfl) (eF.one (show Kd.M (Kd.int .i64) _ _ _ bK [.int .i64 bK] from rfl) (eF.one (show Kd.M (Kd.int .i64) _ _ _ dx [.int .i64 dx] from rfl) (eF.none _ _))))); intro v138 w8 ho9 hb hg_ hnew_; clear hg_ hnew_; (first | rw [← WH.out] at ho9 | (simp only [Int.reduceToNat] at ho9; rw [← WH.out] at ho9)); have n0_ := af.mk (Kd.fA ho9 (az (by repeat (first | (with_reducible first | exact HB.out | apply ai | apply ah | apply aj | refine ay ?_ PE.out) | exact HB.out)))); have n1_ := af.mk (bP (g := qK) (o := .cells #[.int .i64 dh, .int .i64 bJ, .int .i64 bK, .int .i64 dx] 92 (0, 0)) (by (with_reducible repeat (first | refine aI ?_ _ | refine aH ?_ | refine aJ ?_ _)); exact kT.out) hb); have n2_ := af.mk (aA (by repeat (first | (with_reducible first | exact HB.out | apply ai | apply ah | apply aj | refine ay ?_ PE.out) | exact HB.out)) hb); clear kT; clear HB; have Lm := n0_; have kT := n1_; have HB := n2_; clear n0_ n1_ n2_; clear hb ho9; have uu : w8.cell? ⟨qK, 0, none⟩ = some (.int .i64 dh) := (ak kT.out 0).trans rfl; have uw : w8.cell? ⟨qK, 1, none⟩ = some (.int .i64 bJ) := (ak kT.out 1).trans rfl; have uy : w8.cell? ⟨qK, 2, none⟩ = some (.int .i64 bK) := (ak kT.out 2).trans rfl; have afk : w8.cell? ⟨qK, 3, none⟩ = some (.int .i64 dx) := (ak kT.out 3).trans rfl; have uz := au kT.out 0; have uB := au kT.out 1; have uC := au kT.out 2; have afl := au kT.out 3) | ((with_reducible refine aZ (f := 87) rfl ?_); refine dG (some 14) rfl rfl Try.func87 (by kernel_rfl) rfl #[.int .i64 dh] rfl (by (try simp only [List.map_toArray, List.map_cons, List.map_nil]); first | done | rfl | (simp only [List.length_drop, List.length_take]; rfl)) ?_; (with_reducible refine (ax.calls k dh pE _ A2.out).mono ?_); rintro e w' ⟨rfl, ⟨nd, rfl⟩⟩; refine ⟨_, rfl, ?_⟩; obtain ⟨aij, aik, ail⟩ := Kd.bQ Lm.out; subst ail; have q12 : ((ji3) : Int) ≤ ((qJ.length : Int) : Int) := of_decide_eq_true (by first | (with_reducible assumption) | assumption); obtain ⟨aim, FO, _, PG, _⟩ := info_parts info3; have Jb := yB (P := Try.prog) 44 3 .i64 Try.underlying44 FO aij qJ.length aik (ji3) (of_decide_eq_true (by first | (with_reducible assumption) | assumption)) q12 (Kd.bY Lm.out).2.1; have FP := Kd.O6 (m := ((ji3) : Int).toNat) Lm.out (by omega); have NG : ack.length = ((ji3) : Int).toNat := (by rw [WJ.out, List.length_take]; omega); rw [← WJ.out] at FP; rw [← NG] at FP Jb; clear NG FO PG Lm; have acl := af.mk FP; clear FP; replace q12 := eq_true q12)); go_ret; exact ⟨_, by first | rfl | (simp [aD, aG] <;> rfl) | (simp only [← l8]; first | rfl | (simp [aD, aG] <;> rfl)) | (simp [*, aD, aG] <;> rfl), by (with_reducible repeat (first | apply Kd.aW | apply Kd.aX | apply Kd.bn)); exact acl.out, by repeat (first | (with_reducible first | exact HB.out | apply ai | apply ah | apply aj | refine ay ?_ PE.out) | exact HB.out)⟩
  ·rw [if_neg c5] at H; exact absurd H (by simp)
 ·rw [if_neg c4] at H; exact absurd H (by simp)
def dz.f (a0 : Int) : Option (Bool) := if a0 = 0 then (some true) else (some (a0 == 1))
set_option maxHeartbeats 8000000 in
set_option maxRecDepth 100000 in
theorem dz.calls (a0 : Int) (r : Bool) (w : World) (h : dz.f a0 = some r) :
 Calls Try.prog 97 #[.int .i64 a0] w fun e w' => e = .returned (.bool r) ∧ bF w w' := by
 have H : (if a0 = 0 then (some true) else (some (a0 == 1))) = some r := h; clear h
 by_cases c2 : a0 = 0
 ·rw [if_pos c2] at H; have CJ : (a0 == 0) = true := beq_iff_eq.mpr c2; have XV : (a0 != 0) = false := bne_eq_false_iff_eq.mpr c2; clear c2; obtain rfl := Option.some.inj H
  go_enter Try.func97, Try.ntmps97
  go_wp2; go_ret; exact ⟨by first | rfl | (simp; done) | (simp [*]; done), by repeat (first | exact bF.refl _ | apply bF.step)⟩
 ·rw [if_neg c2] at H; have CJ : (a0 == 0) = false := beq_eq_false_iff_ne.mpr c2; have XV : (a0 != 0) = true := bne_iff_ne.mpr c2; obtain rfl := Option.some.inj H
  go_enter Try.func97, Try.ntmps97
  go_wp2; go_ret; exact ⟨by first | rfl | (simp; done) | (simp [*]; done), by repeat (first | exact bF.refl _ | apply bF.step)⟩
end Go.Proofs.Ytkgeihbcikiedaa.P
