/- The contracts of slipstickref06_many, slipstickref06_Uses, slipstickref06_bit that are used here, at all inputs where their Lean functions tell a result; cut out of what a changed copy of the kit's print wrote. -/
import Derived.Test.YtkgeihbcikiedaaPx0
namespace Go.Proofs.Ytkgeihbcikiedaa.P
open Go.RowKit Go.Proofs.YtkgeihbcikiedaaW.PrintWords Go.Proofs.YtkgeihbcikiedaaW.PrintLast Go.Proofs.YtkgeihbcikiedaaW.PrintMore
attribute [local go_sem] dM dN eu eB dx dz dO dP
set_option linter.unusedVariables false
set_option linter.unusedSimpArgs false
mutual
def ax.j0 : Nat → Int → Bool → Option (Int)
 | 0, _, _ => none
 | k + 1, x3, x4 => if x4 = true then (some 0) else (if x3 = 2 then (ax.j1 k x3 (x3 == 2)) else (ax.j1 k x3 (x3 == 7)))
def ax.j1 : Nat → Int → Bool → Option (Int)
 | 0, _, _ => none
 | k + 1, x3, x7 => if x7 = true then (some 1) else (if x3 = 3 then (ax.j2 k x3 (x3 == 3)) else (if x3 = 4 then (ax.j2 k x3 (x3 == 4)) else (ax.j2 k x3 (x3 == 5))))
def ax.j2 : Nat → Int → Bool → Option (Int)
 | 0, _, _ => none
 | k + 1, x3, x10 => if x10 = true then (some 2) else (if x3 = 6 then (some 3) else (some (-1)))
end
def ax.f (k : Nat) (a0 : Int) : Option (Int) := if a0 = 0 then (ax.j0 k a0 (a0 == 0)) else (ax.j0 k a0 (a0 == 1))
set_option maxHeartbeats 8000000 in
set_option maxRecDepth 100000 in
theorem ax.calls (k : Nat) (a0 : Int) (r : Int) (w : World) (h : ax.f k a0 = some r) :
 Calls Try.prog 87 #[.int .i64 a0] w fun e w' => e = .returned (.int .i64 r) ∧ bY w w' := by
 have H : (if a0 = 0 then (ax.j0 k a0 (a0 == 0)) else (ax.j0 k a0 (a0 == 1))) = some r := h; clear h; have HC2 := af.mk H; clear H
 go_enter Try.func87, Try.ntmps87
 go_upto_if 4 with (fail)
 go_cut [4] (fun v4 wc => ∃ (kq : Nat) (fB : Bool), v4 = .bool fB ∧ af (ax.j0 kq a0 fB = some r) ∧ af (kq ≤ k) ∧ bY w wc)
 case first =>
  have H := HC2.out; clear HC2
  by_cases c3 : a0 = 0
  ·rw [if_pos c3] at H; have lh : (a0 == 0) = true := beq_iff_eq.mpr c3; have si : (a0 != 0) = false := bne_eq_false_iff_eq.mpr c3; clear c3
   (first | rw [lh] | (simp only [aG, aJ]; rw [lh]) | skip)
   have H' := af.mk H; clear H; go_wp2
   go_meet
   case rel => exact ⟨_, ((a0 == 0)), (by first | rfl | (simp; done) | (simp [*]; done) | (simp; omega)), H', ⟨by first | omega | exact Nat.le_refl _⟩, by repeat (first | exact bY.refl _ | apply bY.step)⟩
  ·rw [if_neg c3] at H; have lh : (a0 == 0) = false := beq_eq_false_iff_ne.mpr c3; have si : (a0 != 0) = true := bne_iff_ne.mpr c3
   (first | rw [lh] | (simp only [aG, aJ]; rw [lh]) | skip)
   have H' := af.mk H; clear H; go_wp2
   go_meet
   case rel => exact ⟨_, ((a0 == 1)), (by first | rfl | (simp; done) | (simp [*]; done) | (simp; omega)), H', ⟨by first | omega | exact Nat.le_refl _⟩, by repeat (first | exact bY.refl _ | apply bY.step)⟩
 case rest =>
  clear HC2
  try clear p2
  try clear c3
  try clear lh
  try clear si
  obtain ⟨kq, fB, rfl, HA, HJ1, ⟨mc1, rfl⟩⟩ := hcut
  cases kq with
  | zero => exact absurd HA.out (by simp [ax.j0])
  | succ kj1 =>
   have H := HA.out; clear HA; simp only [ax.j0] at H
   by_cases c4 : fB = true
   ·subst c4
    have H1 : (some 0) = some r := by rw [if_pos rfl] at H; exact H
    clear H; have H := H1; clear H1; obtain rfl := Option.some.inj H; go_wp2; go_ret; exact ⟨by first | rfl | (simp; done) | (simp [*]; done), by repeat (first | exact bY.refl _ | apply bY.step)⟩
   ·replace c4 := Bool.eq_false_iff.mpr c4; subst c4
    have H1 : (if a0 = 2 then (ax.j1 kj1 a0 (a0 == 2)) else (ax.j1 kj1 a0 (a0 == 7))) = some r := by rw [if_neg (show ¬ (false = true) by decide)] at H; exact H
    clear H; have H := H1; clear H1; have HC5 := af.mk H; clear H
    go_upto_if 7 with (fail)
    go_cut [7] (fun v7 wc => ∃ (kq : Nat) (Tz : Bool), v7 = .bool Tz ∧ af (ax.j1 kq a0 Tz = some r) ∧ af (kq ≤ kj1) ∧ bY w wc)
    case first =>
     have H := HC5.out; clear HC5
     by_cases c6 : a0 = 2
     ·rw [if_pos c6] at H; have qJ : (a0 == 2) = true := beq_iff_eq.mpr c6; have MP : (a0 != 2) = false := bne_eq_false_iff_eq.mpr c6; clear c6
      (first | rw [qJ] | (simp only [aG, aJ]; rw [qJ]) | skip)
      have H' := af.mk H; clear H; go_wp2
      go_meet
      case rel => exact ⟨_, ((a0 == 2)), (by first | rfl | (simp; done) | (simp [*]; done) | (simp; omega)), H', ⟨by have := HJ1.out; first | omega | exact Nat.le_refl _⟩, by repeat (first | exact bY.refl _ | apply bY.step)⟩
     ·rw [if_neg c6] at H; have qJ : (a0 == 2) = false := beq_eq_false_iff_ne.mpr c6; have MP : (a0 != 2) = true := bne_iff_ne.mpr c6
      (first | rw [qJ] | (simp only [aG, aJ]; rw [qJ]) | skip)
      have H' := af.mk H; clear H; go_wp2
      go_meet
      case rel => exact ⟨_, ((a0 == 7)), (by first | rfl | (simp; done) | (simp [*]; done) | (simp; omega)), H', ⟨by have := HJ1.out; first | omega | exact Nat.le_refl _⟩, by repeat (first | exact bY.refl _ | apply bY.step)⟩
    case rest =>
     clear HC5
     try clear c1
     try clear p2
     try clear c3
     try clear lh
     try clear si
     try clear c4
     try clear c6
     try clear qJ
     try clear MP
     try clear p2
     obtain ⟨kq, Tz, rfl, HA, HJ4, ⟨mc4, rfl⟩⟩ := hcut
     cases kq with
     | zero => exact absurd HA.out (by simp [ax.j1])
     | succ kj4 =>
      have H := HA.out; clear HA; simp only [ax.j1] at H
      by_cases c7 : Tz = true
      ·subst c7
       have H1 : (some 1) = some r := by rw [if_pos rfl] at H; exact H
       clear H; have H := H1; clear H1; obtain rfl := Option.some.inj H; go_wp2; go_ret; exact ⟨by first | rfl | (simp; done) | (simp [*]; done), by repeat (first | exact bY.refl _ | apply bY.step)⟩
      ·replace c7 := Bool.eq_false_iff.mpr c7; subst c7
       have H1 : (if a0 = 3 then (ax.j2 kj4 a0 (a0 == 3)) else (if a0 = 4 then (ax.j2 kj4 a0 (a0 == 4)) else (ax.j2 kj4 a0 (a0 == 5)))) = some r := by rw [if_neg (show ¬ (false = true) by decide)] at H; exact H
       clear H; have H := H1; clear H1; have HC8 := af.mk H; clear H
       go_upto_if 10 with (fail)
       go_cut [10] (fun v10 wc => ∃ (kq : Nat) (KI : Bool), v10 = .bool KI ∧ af (ax.j2 kq a0 KI = some r) ∧ af (kq ≤ kj4) ∧ bY w wc)
       case first =>
        have H := HC8.out; clear HC8
        by_cases c9 : a0 = 3
        ·rw [if_pos c9] at H; have vR : (a0 == 3) = true := beq_iff_eq.mpr c9; have OH : (a0 != 3) = false := bne_eq_false_iff_eq.mpr c9; clear c9
         (first | rw [vR] | (simp only [aG, aJ]; rw [vR]) | skip)
         have H' := af.mk H; clear H; go_wp2
         go_meet
         case rel => exact ⟨_, ((a0 == 3)), (by first | rfl | (simp; done) | (simp [*]; done) | (simp; omega)), H', ⟨by have := HJ1.out; have := HJ4.out; first | omega | exact Nat.le_refl _⟩, by repeat (first | exact bY.refl _ | apply bY.step)⟩
        ·rw [if_neg c9] at H; have vR : (a0 == 3) = false := beq_eq_false_iff_ne.mpr c9; have OH : (a0 != 3) = true := bne_iff_ne.mpr c9
         (first | rw [vR] | (simp only [aG, aJ]; rw [vR]) | skip)
         by_cases c10 : a0 = 4
         ·rw [if_pos c10] at H; have yN : (a0 == 4) = true := beq_iff_eq.mpr c10; have Wp : (a0 != 4) = false := bne_eq_false_iff_eq.mpr c10; clear c10; have H' := af.mk H; clear H; go_wp2
          go_meet
          case rel => exact ⟨_, ((a0 == 4)), (by first | rfl | (simp; done) | (simp [*]; done) | (simp; omega)), H', ⟨by have := HJ1.out; have := HJ4.out; first | omega | exact Nat.le_refl _⟩, by repeat (first | exact bY.refl _ | apply bY.step)⟩
         ·rw [if_neg c10] at H; have yN : (a0 == 4) = false := beq_eq_false_iff_ne.mpr c10; have Wp : (a0 != 4) = true := bne_iff_ne.mpr c10; have H' := af.mk H; clear H; go_wp2
          go_meet
          case rel => exact ⟨_, ((a0 == 5)), (by first | rfl | (simp; done) | (simp [*]; done) | (simp; omega)), H', ⟨by have := HJ1.out; have := HJ4.out; first | omega | exact Nat.le_refl _⟩, by repeat (first | exact bY.refl _ | apply bY.step)⟩
       case rest =>
        clear HC8
        try clear c1
        try clear p2
        try clear c3
        try clear lh
        try clear si
        try clear c4
        try clear c6
        try clear qJ
        try clear MP
        try clear c7
        try clear c8
        try clear c9
        try clear vR
        try clear OH
        try clear c10
        try clear yN
        try clear Wp
        try clear p2
        obtain ⟨kq, KI, rfl, HA, HJ7, ⟨mc7, rfl⟩⟩ := hcut
        cases kq with
        | zero => exact absurd HA.out (by simp [ax.j2])
        | succ kj7 =>
         have H := HA.out; clear HA; simp only [ax.j2] at H
         by_cases c11 : KI = true
         ·subst c11
          have H1 : (some 2) = some r := by rw [if_pos rfl] at H; exact H
          clear H; have H := H1; clear H1; obtain rfl := Option.some.inj H; go_wp2; go_ret; exact ⟨by first | rfl | (simp; done) | (simp [*]; done), by repeat (first | exact bY.refl _ | apply bY.step)⟩
         ·replace c11 := Bool.eq_false_iff.mpr c11; subst c11
          have H1 : (if a0 = 6 then (some 3) else (some (-1))) = some r := by rw [if_neg (show ¬ (false = true) by decide)] at H; exact H
          clear H; have H := H1; clear H1
          by_cases c12 : a0 = 6
          ·rw [if_pos c12] at H; have ui : (a0 == 6) = true := beq_iff_eq.mpr c12; have Kt : (a0 != 6) = false := bne_eq_false_iff_eq.mpr c12; clear c12; obtain rfl := Option.some.inj H; go_wp2; go_ret; exact ⟨by first | rfl | (simp; done) | (simp [*]; done), by repeat (first | exact bY.refl _ | apply bY.step)⟩
          ·rw [if_neg c12] at H; have ui : (a0 == 6) = false := beq_eq_false_iff_ne.mpr c12; have Kt : (a0 != 6) = true := bne_iff_ne.mpr c12; obtain rfl := Option.some.inj H; go_wp2; go_ret; exact ⟨by first | rfl | (simp; done) | (simp [*]; done), by repeat (first | exact bY.refl _ | apply bY.step)⟩
def cB.f (k : Nat) (cO : Int) (bJ : Int) (bK : Int) (dm : Int) : Option (List Int) := (some (([bJ, bK, dm] : List Int) : List Int)).bind fun qQ => ((ax.f k cO).bind fun pE => (if 0 ≤ (mx pE 0) then (if (mx pE 0) ≤ (qQ.length : Int) then (some (qQ.take ((mx pE 0) : Int).toNat)) else (none)) else (none)))
set_option maxHeartbeats 8000000 in
set_option maxRecDepth 100000 in
theorem cB.calls (k : Nat) (cO : Int) (bJ : Int) (bK : Int) (dm : Int) (r : List Int) (w : World) (h : cB.f k cO bJ bK dm = some r) :
 Calls Try.prog 73 #[.agg #[.int .i64 cO, .int .i64 bJ, .int .i64 bK, .int .i64 dm]] w fun e w' => ∃ v0_ : Value, e = .returned (v0_) ∧ Kd.R (Kd.int .i64) 3 w' w.heap.size (fun _ => True) v0_ r ∧ Below w.heap.size w w' := by
 have MI := Try.underlying92; have HB := af.mk (Below.refl w.heap.size w); have H : ((some (([bJ, bK, dm] : List Int) : List Int)).bind fun qQ => ((ax.f k cO).bind fun pE => (if 0 ≤ (mx pE 0) then (if (mx pE 0) ≤ (qQ.length : Int) then (some (qQ.take ((mx pE 0) : Int).toNat)) else (none)) else (none)))) = some r := h; clear h
 obtain ⟨qQ, Fh⟩ : ∃ y_ : List Int, y_ = (([bJ, bK, dm] : List Int)) := ⟨_, rfl⟩
 replace H : ((ax.f k cO).bind fun pE => (if 0 ≤ (mx pE 0) then (if (mx pE 0) ≤ (qQ.length : Int) then (some (qQ.take ((mx pE 0) : Int).toNat)) else (none)) else (none))) = some r := by first | (rw [Fh]; with_reducible exact H) | (have H2_ := (Option.bind_some _ _).symm.trans H; rw [Fh]; with_reducible exact H2_) | (have H2_ := (Option.bind_some _ _).symm.trans H; with_reducible exact H2_) | with_reducible exact H | (rw [Fh]; exact H) | exact H
 have Wq := af.mk Fh; clear Fh; replace H := Option.bind_eq_some_iff.mp H; obtain ⟨pE, A20, H⟩ := H; replace H : (if 0 ≤ (mx pE 0) then (if (mx pE 0) ≤ (qQ.length : Int) then (some (qQ.take ((mx pE 0) : Int).toNat)) else (none)) else (none)) = some r := H; have A2 := af.mk A20; clear A20
 obtain ⟨ji3, xJ⟩ : ∃ j_ : Int, (mx pE 0) = j_ := ⟨_, rfl⟩
 replace H : (if 0 ≤ (ji3) then (if (ji3) ≤ (qQ.length : Int) then (some (qQ.take ((ji3) : Int).toNat)) else (none)) else (none)) = some r := by first | (rw [xJ] at H; exact H) | (simp only [xJ] at H ⊢; exact H)
 (try rw [xJ] at A2)
 (try (have akB : 0 ≤ ji3 := by (rw [← xJ]; unfold mx; (repeat' split) <;> omega)))
 (try (have akC : 0 ≤ ji3 := by omega))
 have akD : (if pE < 0 then 0 else pE) = ji3 := xJ
 by_cases c4 : 0 ≤ (ji3)
 ·rw [if_pos c4] at H; have lZ := eq_true c4; have O6 : decide (0 ≤ (ji3)) = true := decide_eq_true c4; clear c4
  by_cases c5 : (ji3) ≤ (qQ.length : Int)
  ·rw [if_pos c5] at H; have sV := eq_true c5; have MQ : decide ((ji3) ≤ (qQ.length : Int)) = true := decide_eq_true c5; clear c5
   obtain ⟨acl, Fj⟩ : ∃ y_ : List Int, y_ = (qQ.take ((ji3) : Int).toNat) := ⟨_, rfl⟩
   replace H : (some acl) = some r := by first | (rw [Fj]; with_reducible exact H) | (have H2_ := (Option.bind_some _ _).symm.trans H; rw [Fj]; with_reducible exact H2_) | (have H2_ := (Option.bind_some _ _).symm.trans H; with_reducible exact H2_) | with_reducible exact H | (rw [Fj]; exact H) | exact H
   have Ws := af.mk Fj; clear Fj; obtain rfl := Option.some.inj H
   go_enter Try.func73, Try.ntmps73
   go_wp2_with (first | ((with_reducible refine bQ (N := 1) rfl ?_); refine di ?hg (N := 1) ?hd (cs := #[.int .i64 cO, .int .i64 bJ, .int .i64 bK, .int .i64 dm]) (t := 92) ?hr ?_; (case hd => rfl); (case hg => rfl); (case hr => first | (go_simp; done) | (go_simp; rfl)); intro qR hg w6 hbox hb; have n0_ := af.mk (az (by repeat (first | (with_reducible first | exact HB.out | apply ai | apply ah | apply ak) | exact HB.out)) hb); have n1_ := af.mk (hbox); have n2_ := af.mk ((by rw [hg]; exact (aD (by repeat (first | (with_reducible first | exact HB.out | apply ai | apply ah | apply ak) | exact HB.out))) : w.heap.size ≤ qR)); have n3_ := af.mk ((by rw [hg]; exact (aD (by repeat (first | (with_reducible first | exact HB.out | apply ai | apply ah | apply ak) | exact HB.out))) : w.heap.size ≤ qR)); clear HB; have HB := n0_; have kG := n1_; have akE := n2_; have O7 := n3_; clear n0_ n1_ n2_ n3_; clear hb hbox hg; have wh : w6.cell? ⟨qR, 0, none⟩ = some (.int .i64 cO) := (aj kG.out 0).trans rfl; have wu : w6.cell? ⟨qR, 1, none⟩ = some (.int .i64 bJ) := (aj kG.out 1).trans rfl; have ww : w6.cell? ⟨qR, 2, none⟩ = some (.int .i64 bK) := (aj kG.out 2).trans rfl; have IG : w6.cell? ⟨qR, 3, none⟩ = some (.int .i64 dm) := (aj kG.out 3).trans rfl; have wy := au kG.out 0; have wz := au kG.out 1; have wB := au kG.out 2; have II := au kG.out 3) | ((with_reducible refine bQ (N := 10) rfl ?_); refine Kd.oz (Kd.int .i64) _ 3 ?hg (N := 10) ?hd (xs := ([bJ, bK, dm] : List Int)) (inner := [.int .i64 bJ, .int .i64 bK, .int .i64 dm]) (ok := fun _ => True) (okp := fun _ => True) ?hr ?hp (fun _ hk => hk) trivial (Below.refl _ _) (Nat.le_refl _) (by simp) ?_; (case hd => rfl); (case hg => rfl); (case hr => first | (go_simp; done) | (go_simp; rfl)); (case hp => exact (dX.one (show Kd.M (Kd.int .i64) _ _ _ bJ [.int .i64 bJ] from rfl) (dX.one (show Kd.M (Kd.int .i64) _ _ _ bK [.int .i64 bK] from rfl) (dX.one (show Kd.M (Kd.int .i64) _ _ _ dm [.int .i64 dm] from rfl) (dX.none _ _))))); intro v138 w8 ho9 hb hg_ hnew_; clear hg_ hnew_; (first | rw [← Wq.out] at ho9 | (simp only [Int.reduceToNat] at ho9; rw [← Wq.out] at ho9)); have n0_ := af.mk (Kd.dW ho9 (aD (by repeat (first | (with_reducible first | exact HB.out | apply ai | apply ah | apply ak | refine ay ?_ O7.out) | exact HB.out)))); have n1_ := af.mk (bf (g := qR) (o := .cells #[.int .i64 cO, .int .i64 bJ, .int .i64 bK, .int .i64 dm] 92 (0, 0)) (by (with_reducible repeat (first | refine aH ?_ _ | refine aA ?_ | refine aI ?_ _)); exact kG.out) hb); have n2_ := af.mk (az (by repeat (first | (with_reducible first | exact HB.out | apply ai | apply ah | apply ak | refine ay ?_ O7.out) | exact HB.out)) hb); clear kG; clear HB; have KJ := n0_; have kG := n1_; have HB := n2_; clear n0_ n1_ n2_; clear hb ho9; have uw : w8.cell? ⟨qR, 0, none⟩ = some (.int .i64 cO) := (aj kG.out 0).trans rfl; have uy : w8.cell? ⟨qR, 1, none⟩ = some (.int .i64 bJ) := (aj kG.out 1).trans rfl; have uz : w8.cell? ⟨qR, 2, none⟩ = some (.int .i64 bK) := (aj kG.out 2).trans rfl; have afS : w8.cell? ⟨qR, 3, none⟩ = some (.int .i64 dm) := (aj kG.out 3).trans rfl; have uB := au kG.out 0; have uC := au kG.out 1; have uD := au kG.out 2; have afT := au kG.out 3) | ((with_reducible refine dQ (f := 87) rfl ?_); refine gY (some 14) rfl rfl Try.func87 (by kernel_rfl) rfl #[.int .i64 cO] rfl (by (try simp only [List.map_toArray, List.map_cons, List.map_nil]); first | done | rfl | (simp only [List.length_drop, List.length_take]; rfl)) ?_; (with_reducible refine (ax.calls k cO pE _ A2.out).mono ?_); rintro e w' ⟨rfl, ⟨nd, rfl⟩⟩; refine ⟨_, rfl, ?_⟩; obtain ⟨aiJ, aiK, aiL⟩ := Kd.bL KJ.out; subst aiL; have q12 : ((ji3) : Int) ≤ ((qQ.length : Int) : Int) := of_decide_eq_true (by first | (with_reducible assumption) | assumption); obtain ⟨alN, Wt, _, acm, _⟩ := info_parts info3; have YG := yO (P := Try.prog) 44 3 .i64 Try.underlying44 Wt aiJ qQ.length aiK (ji3) (of_decide_eq_true (by first | (with_reducible assumption) | assumption)) q12 (Kd.bX KJ.out).2.1; have TA := Kd.O8 (m := ((ji3) : Int).toNat) KJ.out (by omega); have acn : acl.length = ((ji3) : Int).toNat := (by rw [Ws.out, List.length_take]; omega); rw [← Ws.out] at TA; rw [← acn] at TA YG; clear acn Wt acm KJ; have aco := af.mk TA; clear TA; replace q12 := eq_true q12)); go_ret; exact ⟨_, by first | rfl | (simp [aV, aW] <;> rfl) | (simp only [← xJ]; first | rfl | (simp [aV, aW] <;> rfl)) | (simp [*, aV, aW] <;> rfl), by (with_reducible repeat (first | apply Kd.bi | apply Kd.bn | apply Kd.bD)); exact aco.out, by repeat (first | (with_reducible first | exact HB.out | apply ai | apply ah | apply ak | refine ay ?_ O7.out) | exact HB.out)⟩
  ·rw [if_neg c5] at H; exact absurd H (by simp)
 ·rw [if_neg c4] at H; exact absurd H (by simp)
def dw.f (a0 : Int) : Option (Bool) := if a0 = 0 then (some true) else (some (a0 == 1))
set_option maxHeartbeats 8000000 in
set_option maxRecDepth 100000 in
theorem dw.calls (a0 : Int) (r : Bool) (w : World) (h : dw.f a0 = some r) :
 Calls Try.prog 97 #[.int .i64 a0] w fun e w' => e = .returned (.bool r) ∧ bY w w' := by
 have H : (if a0 = 0 then (some true) else (some (a0 == 1))) = some r := h; clear h
 by_cases c2 : a0 = 0
 ·rw [if_pos c2] at H; have Ih : (a0 == 0) = true := beq_iff_eq.mpr c2; have XY : (a0 != 0) = false := bne_eq_false_iff_eq.mpr c2; clear c2; obtain rfl := Option.some.inj H
  go_enter Try.func97, Try.ntmps97
  go_wp2; go_ret; exact ⟨by first | rfl | (simp; done) | (simp [*]; done), by repeat (first | exact bY.refl _ | apply bY.step)⟩
 ·rw [if_neg c2] at H; have Ih : (a0 == 0) = false := beq_eq_false_iff_ne.mpr c2; have XY : (a0 != 0) = true := bne_iff_ne.mpr c2; obtain rfl := Option.some.inj H
  go_enter Try.func97, Try.ntmps97
  go_wp2; go_ret; exact ⟨by first | rfl | (simp; done) | (simp [*]; done), by repeat (first | exact bY.refl _ | apply bY.step)⟩
end Go.Proofs.Ytkgeihbcikiedaa.P
