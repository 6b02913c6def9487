/- The contracts of nat_Nat_trim, slipstickref01_Word, slipstickref01_Bit, slipstickref01_Parts, slipsticklaw18_Words that are used here, at all inputs where their Lean functions tell a result; cut out of what a changed copy of the kit's print wrote. -/
import Derived.Test.YtkgeihbcikiedaaPx0
namespace Go.Proofs.Ytkgeihbcikiedaa.P
open Go.RowKit Go.Proofs.YtkgeihbcikiedaaW.PrintWords Go.Proofs.YtkgeihbcikiedaaW.PrintLast Go.Proofs.YtkgeihbcikiedaaW.PrintMore
attribute [local go_sem] dM dN eu eB dx dz dO dP
set_option linter.unusedVariables false
set_option linter.unusedSimpArgs false
def bU.l0 : Nat → Int → List Bool → Option (List Bool)
 | 0, _, _ => none
 | k + 1, x0, x3 => if x0 > 0 then (if x3.length < 140737488355328 then (bU.l0 k (IntKind.u64.wrap (Int.tdiv x0 2)) (x3 ++ [((Int.tmod x0 2) == 1)])) else (none)) else (some x3)
def bU.f (k : Nat) (a0 : Int) : Option (List Bool) := bU.l0 k a0 (([] : List Bool))
set_option maxHeartbeats 8000000 in
set_option maxRecDepth 100000 in
theorem bU.calls (k : Nat) (a0 : Int) (r : List Bool) (w : World) (h : bU.f k a0 = some r) :
 Calls Try.prog 11 #[.int .u64 a0] w fun e w' => ∃ v0_ : Value, e = .returned (v0_) ∧ Kd.R Kd.bool 4 w' w.heap.size (fun _ => True) v0_ r ∧ Below w.heap.size w w' := by
 have HB := af.mk (Below.refl w.heap.size w); have H : (bU.l0 k a0 (([] : List Bool))) = some r := h; clear h
 obtain ⟨y112, hy112⟩ : ∃ y_ : List Bool, y_ = (([] : List Bool)) := ⟨_, rfl⟩
 replace H : (bU.l0 k a0 y112) = some r := by first | (rw [hy112]; with_reducible exact H) | (have H2_ := (Option.bind_some _ _).symm.trans H; rw [hy112]; with_reducible exact H2_) | (have H2_ := (Option.bind_some _ _).symm.trans H; with_reducible exact H2_) | with_reducible exact H | (rw [hy112]; exact H) | exact H
 have XF := af.mk hy112; clear hy112; have H' := af.mk H; clear H
 go_enter Try.func11, Try.ntmps11
 go_wp2_with (first | ((with_reducible refine bQ (N := 4) rfl ?_); refine Kd.oz Kd.bool _ 4 ?hg (N := 4) ?hd (xs := ([] : List Bool)) (inner := []) (ok := fun _ => True) (okp := fun _ => True) ?hr ?hp (fun _ hk => hk) trivial (Below.refl _ _) (Nat.le_refl _) (by simp) ?_; (case hd => rfl); (case hg => rfl); (case hr => first | (go_simp; done) | (go_simp; rfl)); (case hp => exact (dX.none _ _)); intro am3 w2 ho3 hb hg_ hnew_; clear hg_ hnew_; (first | rw [← XF.out] at ho3 | (simp only [Int.reduceToNat] at ho3; rw [← XF.out] at ho3)); have n0_ := af.mk (Kd.dW ho3 (aD (by repeat (first | (with_reducible first | exact HB.out | apply ai | apply ah | apply ak) | exact HB.out)))); have n1_ := af.mk (az (by repeat (first | (with_reducible first | exact HB.out | apply ai | apply ah | apply ak) | exact HB.out)) hb); clear HB; have afz := n0_; have HB := n1_; clear n0_ n1_; clear hb ho3))
 go_loopg [0, 3] k (fun kq v0 v3 w' => ∃ (Bz : Int) (eH : List Bool), v0 = .int .u64 Bz ∧ af (bU.l0 kq Bz eH = some r) ∧ af (kq ≤ k) ∧ af (Kd.R Kd.bool 4 w' w.heap.size (fun _ => True) v3 eH) ∧ af (Below w.heap.size w w'))
 case atStart => exact ⟨(a0), (y112), (by first | rfl | (simp; done) | (simp [*]; done) | (simp; omega)), H', ⟨Nat.le_refl _⟩, ⟨by (with_reducible repeat (first | apply Kd.bi | apply Kd.bn | apply Kd.bD)); exact afz.out⟩, ⟨by repeat (first | (with_reducible first | exact HB.out | apply ai | apply ah | apply ak) | exact HB.out)⟩⟩
 case round =>
  clear H'
  try clear c1
  try clear p2
  obtain ⟨Bz, eH, rfl, HA, HK1, gT, HB⟩ := hrel
  cases gk with
  | zero => exact absurd HA.out (by simp [bU.l0])
  | succ k1 =>
   have H := HA.out; clear HA; simp only [bU.l0] at H
   by_cases c4 : Bz > 0
   ·rw [if_pos c4] at H; have lZ : decide (0 < Bz) = true := decide_eq_true c4; clear c4
    by_cases c5 : eH.length < 140737488355328
    ·rw [if_pos c5] at H; have akt := af.mk c5; clear c5
     obtain ⟨y115, hy115⟩ : ∃ y_ : List Bool, y_ = (eH ++ [((Int.tmod Bz 2) == 1)]) := ⟨_, rfl⟩
     replace H : (bU.l0 k1 (IntKind.u64.wrap (Int.tdiv Bz 2)) y115) = some r := by first | (rw [hy115]; with_reducible exact H) | (have H2_ := (Option.bind_some _ _).symm.trans H; rw [hy115]; with_reducible exact H2_) | (have H2_ := (Option.bind_some _ _).symm.trans H; with_reducible exact H2_) | with_reducible exact H | (rw [hy115]; exact H) | exact H
     have afA := af.mk hy115; clear hy115; have H' := af.mk H; clear H; go_wp2_with (first | ((with_reducible refine eZ (b := .append) (xs := #[.tmp 7, .tmp 11]) rfl ?_); at_builtin; refine Kd.jy Kd.bool (w0 := w) w.heap.size rfl (.tmp 7) (.tmp 11) 38 4 (.bool false) 1 rfl Try.underlying38 BX rfl (by decide) (by omega) u3 eH ((Int.tmod Bz 2) == 1) [.bool ((Int.tmod Bz 2) == 1)] (fun _ => True) (fun _ => False) rfl rfl ?aP (fun _ hk => hk.elim) ?aF ?aO ?aB ?aS ?aL ?_; (case aP => exact rfl); (case aB => exact (by repeat (first | (with_reducible first | exact HB.out | apply ai | apply ah | apply ak) | exact HB.out))); (case aF => exact (fun _ _ => trivial)); (case aO => exact (by (with_reducible repeat (first | apply Kd.bi | apply Kd.bn | apply Kd.bD)); exact gT.out)); (case aS => exact (aD (by repeat (first | (with_reducible first | exact HB.out | apply ai | apply ah | apply ak) | exact HB.out)))); (case aL => have := akt.out; omega); intro am4 w6 ho hb hg hat; rw [← afA.out] at ho; have n0_ := af.mk (hb); have n1_ := af.mk (ho); clear HB; clear gT; have HB := n0_; have afB := n1_; clear n0_ n1_; clear ho hb hg hat))
     go_roundg k1
     case measure => have := HK1.out; omega
     case rel => exact ⟨(IntKind.u64.wrap (Int.tdiv Bz 2)), (y115), (by first | rfl | (simp; done) | (simp [*]; done) | (simp; omega)), H', ⟨by have := HK1.out; omega⟩, ⟨by (with_reducible repeat (first | apply Kd.bi | apply Kd.bn | apply Kd.bD)); exact afB.out⟩, ⟨by repeat (first | (with_reducible first | exact HB.out | apply ai | apply ah | apply ak) | exact HB.out)⟩⟩
    ·rw [if_neg c5] at H; exact absurd H (by simp)
   ·rw [if_neg c4] at H; have lZ : decide (0 < Bz) = false := decide_eq_false c4; clear c4; obtain rfl := Option.some.inj H; go_wp2; go_ret; exact ⟨_, by first | rfl | (simp [aV, aW] <;> rfl) | (simp [*, aV, aW] <;> rfl), by (with_reducible repeat (first | apply Kd.bi | apply Kd.bn | apply Kd.bD)); exact gT.out, by repeat (first | (with_reducible first | exact HB.out | apply ai | apply ah | apply ak) | exact HB.out)⟩
def fF.f (l0 : List Bool) (a1 : Int) : Option (Bool) := if a1 ≥ 0 then (if a1 < (l0.length : Int) then (if 0 ≤ a1 then (some (j4 false l0 a1)) else (none)) else (some false)) else (some false)
set_option maxHeartbeats 8000000 in
set_option maxRecDepth 100000 in
theorem fF.calls (A0 : Option Addr) (c0 : Nat) (l0 : List Bool) (a1 : Int) (r : Bool) (w : World) (hr0 : Kd.C Kd.bool w A0 l0.length l0) (hc0 : l0.length ≤ c0) (h : fF.f l0 a1 = some r) :
 Calls Try.prog 50 #[.slice A0 l0.length c0, .int .i64 a1] w fun e w' => e = .returned (.bool r) ∧ bY w w' := by
 have HR0 := af.mk hr0; have HC0 := af.mk hc0; clear hr0 hc0; have H : (if a1 ≥ 0 then (if a1 < (l0.length : Int) then (if 0 ≤ a1 then (some (j4 false l0 a1)) else (none)) else (some false)) else (some false)) = some r := h; clear h
 by_cases c3 : a1 ≥ 0
 ·rw [if_pos c3] at H; have lh : decide (0 ≤ a1) = true := decide_eq_true c3; clear c3
  by_cases c4 : a1 < (l0.length : Int)
  ·rw [if_pos c4] at H; have lZ : decide (a1 < (l0.length : Int)) = true := decide_eq_true c4; clear c4
   by_cases c5 : 0 ≤ a1
   ·rw [if_pos c5] at H; have sV : decide (0 ≤ a1) = true := decide_eq_true c5; clear c5; obtain rfl := Option.some.inj H; have abb : 0 ≤ (a1 : Int) := of_decide_eq_true (by first | (with_reducible assumption) | assumption); have abd : a1 < (l0.length : Int) := of_decide_eq_true (by first | (with_reducible assumption) | assumption); obtain ⟨alx, e118, aij⟩ := Kd.mE HR0.out a1 abb abd; cases e118; replace abb := eq_true abb; replace abd := eq_true abd
    go_enter Try.func50, Try.ntmps50
    go_wp2; go_ret; exact ⟨by first | rfl | (simp; done) | (simp [*]; done), by repeat (first | exact bY.refl _ | apply bY.step)⟩
   ·rw [if_neg c5] at H; exact absurd H (by simp)
  ·rw [if_neg c4] at H; have lZ : decide (a1 < (l0.length : Int)) = false := decide_eq_false c4; clear c4; obtain rfl := Option.some.inj H
   go_enter Try.func50, Try.ntmps50
   go_wp2; go_ret; exact ⟨by first | rfl | (simp; done) | (simp [*]; done), by repeat (first | exact bY.refl _ | apply bY.step)⟩
 ·rw [if_neg c3] at H; have lh : decide (0 ≤ a1) = false := decide_eq_false c3; clear c3; obtain rfl := Option.some.inj H
  go_enter Try.func50, Try.ntmps50
  go_wp2; go_ret; exact ⟨by first | rfl | (simp; done) | (simp [*]; done), by repeat (first | exact bY.refl _ | apply bY.step)⟩
mutual
def aN.l0 : Nat → List Bool → List Int → Int → Option (List Int)
 | 0, _, _, _ => none
 | k + 1, x0, x3, x4 => if x4 < (x0.length : Int) then (aN.l1 k x0 x3 x4 0 31) else (some x3)
def aN.l1 : Nat → List Bool → List Int → Int → Int → Int → Option (List Int)
 | 0, _, _, _, _, _ => none
 | k + 1, x0, x3, x4, x5, x6 => if x6 ≥ 0 then ((fF.f x0 (wrap64 (x4 + x6))).bind fun VT => (if VT = true then (aN.l1 k x0 x3 x4 ((((x5 * 2) % 4294967296) + 1) % 4294967296) (wrap64 (x6 - 1))) else (aN.l1 k x0 x3 x4 ((x5 * 2) % 4294967296) (wrap64 (x6 - 1))))) else (if x3.length < 35184372088832 then (aN.l0 k x0 (x3 ++ [x5]) (wrap64 (x4 + 32))) else (none))
end
def aN.f (k : Nat) (l0 : List Bool) : Option (List Int) := aN.l0 k l0 (([] : List Int)) 0
set_option maxHeartbeats 8000000 in
set_option maxRecDepth 100000 in
theorem aN.calls (k : Nat) (A0 : Option Addr) (c0 : Nat) (l0 : List Bool) (r : List Int) (w : World) (hr0 : Kd.C Kd.bool w A0 l0.length l0) (hc0 : l0.length ≤ c0) (h : aN.f k l0 = some r) :
 Calls Try.prog 21 #[.slice A0 l0.length c0] w fun e w' => ∃ v0_ : Value, e = .returned (v0_) ∧ Kd.R (Kd.int .u32) 73 w' w.heap.size (fun _ => True) v0_ r ∧ Below w.heap.size w w' := by
 have HR0 := af.mk hr0; have HC0 := af.mk hc0; clear hr0 hc0; have HB := af.mk (Below.refl w.heap.size w); have H : (aN.l0 k l0 (([] : List Int)) 0) = some r := h; clear h
 obtain ⟨afC, Hy⟩ : ∃ y_ : List Int, y_ = (([] : List Int)) := ⟨_, rfl⟩
 replace H : (aN.l0 k l0 afC 0) = some r := by first | (rw [Hy]; with_reducible exact H) | (have H2_ := (Option.bind_some _ _).symm.trans H; rw [Hy]; with_reducible exact H2_) | (have H2_ := (Option.bind_some _ _).symm.trans H; with_reducible exact H2_) | with_reducible exact H | (rw [Hy]; exact H) | exact H
 have XG := af.mk Hy; clear Hy; have H' := af.mk H; clear H
 go_enter Try.func21, Try.ntmps21
 go_wp2_with (first | ((with_reducible refine bQ (N := 7) rfl ?_); refine Kd.oz (Kd.int .u32) _ 73 ?hg (N := 7) ?hd (xs := ([] : List Int)) (inner := []) (ok := fun _ => True) (okp := fun _ => True) ?hr ?hp (fun _ hk => hk) trivial (Below.refl _ _) (Nat.le_refl _) (by simp) ?_; (case hd => rfl); (case hg => rfl); (case hr => first | (go_simp; done) | (go_simp; rfl)); (case hp => exact (dX.none _ _)); intro am5 w2 ho3 hb hg_ hnew_; clear hg_ hnew_; (first | rw [← XG.out] at ho3 | (simp only [Int.reduceToNat] at ho3; rw [← XG.out] at ho3)); have n0_ := af.mk (Kd.dW ho3 (aD (by repeat (first | (with_reducible first | exact HB.out | apply ai | apply ah | apply ak) | exact HB.out)))); have n1_ := af.mk (az (by repeat (first | (with_reducible first | exact HB.out | apply ai | apply ah | apply ak) | exact HB.out)) hb); clear HB; have afD := n0_; have HB := n1_; clear n0_ n1_; clear hb ho3))
 go_loopg [3, 4] k (fun kq v3 v4 w' => ∃ (eH : List Int) (fB : Int), v4 = .int .i64 fB ∧ af (aN.l0 kq l0 eH fB = some r) ∧ af (kq ≤ k) ∧ af (Kd.R (Kd.int .u32) 73 w' w.heap.size (fun _ => True) v3 eH) ∧ af (Below w.heap.size w w'))
 case atStart => exact ⟨(afC), (0), (by first | rfl | (simp; done) | (simp [*]; done) | (simp; omega)), H', ⟨Nat.le_refl _⟩, ⟨by (with_reducible repeat (first | apply Kd.bi | apply Kd.bn | apply Kd.bD)); exact afD.out⟩, ⟨by repeat (first | (with_reducible first | exact HB.out | apply ai | apply ah | apply ak) | exact HB.out)⟩⟩
 case round =>
  clear H'
  try clear c2
  try clear p2
  obtain ⟨eH, fB, rfl, HA, HK1, gT, HB⟩ := hrel
  cases gk with
  | zero => exact absurd HA.out (by simp [aN.l0])
  | succ k1 =>
   have H := HA.out; clear HA; simp only [aN.l0] at H
   by_cases c4 : fB < (l0.length : Int)
   ·rw [if_pos c4] at H; have lZ : decide (fB < (l0.length : Int)) = true := decide_eq_true c4; clear c4; have H' := af.mk H; clear H; go_wp2
    go_loopg [5, 6] k1 (fun kq v5 v6 w' => ∃ (nZ : Int) (iF : Int), v5 = .int .u32 nZ ∧ v6 = .int .i64 iF ∧ af (aN.l1 kq l0 eH fB nZ iF = some r) ∧ af (kq ≤ k1) ∧ af (Kd.R (Kd.int .u32) 73 w' w.heap.size (fun _ => True) u3 eH) ∧ af (Below w.heap.size w w'))
    case atStart => exact ⟨(0), (31), (by first | rfl | (simp; done) | (simp [*]; done) | (simp; omega)), (by first | rfl | (simp; done) | (simp [*]; done) | (simp; omega)), H', ⟨Nat.le_refl _⟩, ⟨by (with_reducible repeat (first | apply Kd.bi | apply Kd.bn | apply Kd.bD)); exact gT.out⟩, ⟨by repeat (first | (with_reducible first | exact HB.out | apply ai | apply ah | apply ak) | exact HB.out)⟩⟩
    case round =>
     clear H'
     try clear c2
     try clear p2
     try clear c4
     try clear lZ
     try clear p2
     obtain ⟨nZ, iF, rfl, rfl, HA, HK2, gT, HB⟩ := hrel
     cases gk with
     | zero => exact absurd HA.out (by simp [aN.l1])
     | succ k2 =>
      have H := HA.out; clear HA; simp only [aN.l1] at H
      by_cases c5 : iF ≥ 0
      ·rw [if_pos c5] at H; have sV : decide (0 ≤ iF) = true := decide_eq_true c5; clear c5; replace H := Option.bind_eq_some_iff.mp H; obtain ⟨VT, A60, H⟩ := H; replace H : (if VT = true then (aN.l1 k2 l0 eH fB ((((nZ * 2) % 4294967296) + 1) % 4294967296) (wrap64 (iF - 1))) else (aN.l1 k2 l0 eH fB ((nZ * 2) % 4294967296) (wrap64 (iF - 1)))) = some r := H; have A6 := af.mk A60; clear A60
       by_cases c7 : VT = true
       ·subst c7
        have H1 : (aN.l1 k2 l0 eH fB ((((nZ * 2) % 4294967296) + 1) % 4294967296) (wrap64 (iF - 1))) = some r := by rw [if_pos rfl] at H; exact H
        clear H; have H := H1; clear H1; have H' := af.mk H; clear H; go_wp2_with (first | ((with_reducible refine dQ (f := 50) rfl ?_); refine gY (some 24) rfl rfl Try.func50 (by kernel_rfl) rfl #[.slice A0 l0.length c0, .int .i64 (wrap64 (fB + iF))] rfl (by (try simp only [List.map_toArray, List.map_cons, List.map_nil]); first | done | rfl | (simp only [List.length_drop, List.length_take]; rfl)) ?_; (with_reducible refine (fF.calls _ _ l0 (wrap64 (fB + iF)) true _ ?iG ?iR A6.out).mono ?_); (case iG => repeat (first | exact (Kd.bZ HR0.out HB.out) | (with_reducible refine Kd.eF ?_ _) | (with_reducible refine Kd.eG ?_ _) | (with_reducible refine Kd.fJ ?_))); (case iR => exact HC0.out); rintro e w' ⟨rfl, ⟨nd, rfl⟩⟩; refine ⟨_, rfl, ?_⟩))
        go_roundg k2
        case measure => have := HK1.out; have := HK2.out; omega
        case rel => exact ⟨((((nZ * 2) % 4294967296) + 1) % 4294967296), (wrap64 (iF - 1)), (by first | rfl | (simp; done) | (simp [*]; done) | (simp; omega)), (by first | rfl | (simp; done) | (simp [*]; done) | (simp; omega)), H', ⟨by have := HK1.out; have := HK2.out; omega⟩, ⟨by (with_reducible repeat (first | apply Kd.bi | apply Kd.bn | apply Kd.bD)); exact gT.out⟩, ⟨by repeat (first | (with_reducible first | exact HB.out | apply ai | apply ah | apply ak) | exact HB.out)⟩⟩
       ·replace c7 := Bool.eq_false_iff.mpr c7; subst c7
        have H1 : (aN.l1 k2 l0 eH fB ((nZ * 2) % 4294967296) (wrap64 (iF - 1))) = some r := by rw [if_neg (show ¬ (false = true) by decide)] at H; exact H
        clear H; have H := H1; clear H1; have H' := af.mk H; clear H; go_wp2_with (first | ((with_reducible refine dQ (f := 50) rfl ?_); refine gY (some 24) rfl rfl Try.func50 (by kernel_rfl) rfl #[.slice A0 l0.length c0, .int .i64 (wrap64 (fB + iF))] rfl (by (try simp only [List.map_toArray, List.map_cons, List.map_nil]); first | done | rfl | (simp only [List.length_drop, List.length_take]; rfl)) ?_; (with_reducible refine (fF.calls _ _ l0 (wrap64 (fB + iF)) false _ ?iG ?iR A6.out).mono ?_); (case iG => repeat (first | exact (Kd.bZ HR0.out HB.out) | (with_reducible refine Kd.eF ?_ _) | (with_reducible refine Kd.eG ?_ _) | (with_reducible refine Kd.fJ ?_))); (case iR => exact HC0.out); rintro e w' ⟨rfl, ⟨nd, rfl⟩⟩; refine ⟨_, rfl, ?_⟩))
        go_roundg k2
        case measure => have := HK1.out; have := HK2.out; omega
        case rel => exact ⟨((nZ * 2) % 4294967296), (wrap64 (iF - 1)), (by first | rfl | (simp; done) | (simp [*]; done) | (simp; omega)), (by first | rfl | (simp; done) | (simp [*]; done) | (simp; omega)), H', ⟨by have := HK1.out; have := HK2.out; omega⟩, ⟨by (with_reducible repeat (first | apply Kd.bi | apply Kd.bn | apply Kd.bD)); exact gT.out⟩, ⟨by repeat (first | (with_reducible first | exact HB.out | apply ai | apply ah | apply ak) | exact HB.out)⟩⟩
      ·rw [if_neg c5] at H; have sV : decide (0 ≤ iF) = false := decide_eq_false c5; clear c5
       by_cases c8 : eH.length < 35184372088832
       ·rw [if_pos c8] at H; have aku := af.mk c8; clear c8
        obtain ⟨afE, Hz⟩ : ∃ y_ : List Int, y_ = (eH ++ [nZ]) := ⟨_, rfl⟩
        replace H : (aN.l0 k2 l0 afE (wrap64 (fB + 32))) = some r := by first | (rw [Hz]; with_reducible exact H) | (have H2_ := (Option.bind_some _ _).symm.trans H; rw [Hz]; with_reducible exact H2_) | (have H2_ := (Option.bind_some _ _).symm.trans H; with_reducible exact H2_) | with_reducible exact H | (rw [Hz]; exact H) | exact H
        have afF := af.mk Hz; clear Hz; have H' := af.mk H; clear H; go_wp2_with (first | ((with_reducible refine eZ (b := .append) (xs := #[.tmp 27, .tmp 29]) rfl ?_); at_builtin; refine Kd.jy (Kd.int .u32) (w0 := w) w.heap.size rfl (.tmp 27) (.tmp 29) 36 73 (.int .u32 0) 4 rfl Try.underlying36 Oo rfl (by decide) (by omega) u3 eH nZ [.int .u32 nZ] (fun _ => True) (fun _ => False) rfl rfl ?aP (fun _ hk => hk.elim) ?aF ?aO ?aB ?aS ?aL ?_; (case aP => exact rfl); (case aB => exact (by repeat (first | (with_reducible first | exact HB.out | apply ai | apply ah | apply ak) | exact HB.out))); (case aF => exact (fun _ _ => trivial)); (case aO => exact (by (with_reducible repeat (first | apply Kd.bi | apply Kd.bn | apply Kd.bD)); exact gT.out)); (case aS => exact (aD (by repeat (first | (with_reducible first | exact HB.out | apply ai | apply ah | apply ak) | exact HB.out)))); (case aL => have := aku.out; omega); intro v124 w9 ho hb hg hat; rw [← afF.out] at ho; have n0_ := af.mk (hb); have n1_ := af.mk (ho); clear HB; clear gT; have HB := n0_; have afG := n1_; clear n0_ n1_; clear ho hb hg hat))
        go_roundg k2
        case measure => have := HK1.out; have := HK2.out; omega
        case rel => exact ⟨(afE), (wrap64 (fB + 32)), (by first | rfl | (simp; done) | (simp [*]; done) | (simp; omega)), H', ⟨by have := HK1.out; have := HK2.out; omega⟩, ⟨by (with_reducible repeat (first | apply Kd.bi | apply Kd.bn | apply Kd.bD)); exact afG.out⟩, ⟨by repeat (first | (with_reducible first | exact HB.out | apply ai | apply ah | apply ak) | exact HB.out)⟩⟩
       ·rw [if_neg c8] at H; exact absurd H (by simp)
   ·rw [if_neg c4] at H; have lZ : decide (fB < (l0.length : Int)) = false := decide_eq_false c4; clear c4; obtain rfl := Option.some.inj H; go_wp2; go_ret; exact ⟨_, by first | rfl | (simp [aV, aW] <;> rfl) | (simp [*, aV, aW] <;> rfl), by (with_reducible repeat (first | apply Kd.bi | apply Kd.bn | apply Kd.bD)); exact gT.out, by repeat (first | (with_reducible first | exact HB.out | apply ai | apply ah | apply ak) | exact HB.out)⟩
def bC.l0 : Nat → List (List Int) → List Int → Int → Int → Option ((List (List Int)))
 | 0, _, _, _, _ => none
 | k + 1, x3, x6, x7, x8 => if x8 < x7 then (if 0 ≤ x8 then (if x8 < (x6.length : Int) then ((bU.f k (rd x6 x8)).bind fun t127 => ((aN.f k t127).bind fun t130 => (if x3.length < 5864062014805 then (bC.l0 k (x3 ++ [t130]) x6 x7 (wrap64 (x8 + 1))) else (none)))) else (none)) else (none)) else (some x3)
def bC.f (k : Nat) (l0 : List Int) : Option ((List (List Int))) := bC.l0 k ([] : List (List Int)) l0 (l0.length : Int) 0
set_option maxHeartbeats 8000000 in
set_option maxRecDepth 100000 in
theorem bC.calls (k : Nat) (A0 : Option Addr) (c0 : Nat) (l0 : List Int) (r : List (List Int)) (w : World) (hr0 : Kd.C (Kd.int .u64) w A0 l0.length l0) (hc0 : l0.length ≤ c0) (h : bC.f k l0 = some r) :
 Calls Try.prog 18 #[.slice A0 l0.length c0] w fun e w' => ∃ v0_ : Value, e = .returned (v0_) ∧ Kd.S (Kd.slice 73 (Kd.int .u32)) 36 w' w.heap.size (fun _ => True) v0_ r ∧ Below w.heap.size w w' := by
 have HR0 := af.mk hr0; have HC0 := af.mk hc0; clear hr0 hc0; have HB := af.mk (Below.refl w.heap.size w); have H : (bC.l0 k ([] : List (List Int)) l0 (l0.length : Int) 0) = some r := h; clear h; have H' := af.mk H; clear H
 go_enter Try.func18, Try.ntmps18
 go_wp2
 go_loopg [3, 8] k (fun kq v3 v8 w' => ∃ (eH : List (List Int)) (lv : Int), v8 = .int .i64 lv ∧ af (bC.l0 kq eH l0 (l0.length : Int) lv = some r) ∧ af (kq ≤ k) ∧ af (Kd.S (Kd.slice 73 (Kd.int .u32)) 36 w' w.heap.size (fun _ => True) v3 eH) ∧ af (Below w.heap.size w w'))
 case atStart => exact ⟨(([] : List (List Int))), (0), (by first | rfl | (simp; done) | (simp [*]; done) | (simp; omega)), H', ⟨Nat.le_refl _⟩, ⟨by first | exact Kd.Wh _ _ _ _ _ | exact Kd.OP _ _ _ _ _ | exact Kd.Cf _ _ _ _ _ | exact Kd.WI _ _ _ _ _ | exact Kd.oD _ _ _ _ _⟩, ⟨by repeat (first | (with_reducible first | exact HB.out | apply ai | apply ah | apply ak) | exact HB.out)⟩⟩
 case round =>
  clear H'
  try clear c1
  obtain ⟨eH, lv, rfl, HA, HK1, gT, HB⟩ := hrel
  cases gk with
  | zero => exact absurd HA.out (by simp [bC.l0])
  | succ k1 =>
   have H := HA.out; clear HA; simp only [bC.l0] at H
   by_cases c2 : lv < (l0.length : Int)
   ·rw [if_pos c2] at H; have Ih : decide (lv < (l0.length : Int)) = true := decide_eq_true c2; clear c2
    by_cases c3 : 0 ≤ lv
    ·rw [if_pos c3] at H; have lh : decide (0 ≤ lv) = true := decide_eq_true c3; clear c3
     by_cases c4 : lv < (l0.length : Int)
     ·rw [if_pos c4] at H; have lZ : decide (lv < (l0.length : Int)) = true := decide_eq_true c4; clear c4; replace H := Option.bind_eq_some_iff.mp H; obtain ⟨t127, A50, H⟩ := H; replace H : ((aN.f k1 t127).bind fun t130 => (if eH.length < 5864062014805 then (bC.l0 k1 (eH ++ [t130]) l0 (l0.length : Int) (wrap64 (lv + 1))) else (none))) = some r := H; have A5 := af.mk A50; clear A50; replace H := Option.bind_eq_some_iff.mp H; obtain ⟨t130, A60, H⟩ := H; replace H : (if eH.length < 5864062014805 then (bC.l0 k1 (eH ++ [t130]) l0 (l0.length : Int) (wrap64 (lv + 1))) else (none)) = some r := H; have A6 := af.mk A60; clear A60
      by_cases c7 : eH.length < 5864062014805
      ·rw [if_pos c7] at H; have Yq := af.mk c7; clear c7
       obtain ⟨afH, H5⟩ : ∃ y_ : List (List Int), y_ = (eH ++ [t130]) := ⟨_, rfl⟩
       replace H : (bC.l0 k1 afH l0 (l0.length : Int) (wrap64 (lv + 1))) = some r := by first | (rw [H5]; with_reducible exact H) | (have H2_ := (Option.bind_some _ _).symm.trans H; rw [H5]; with_reducible exact H2_) | (have H2_ := (Option.bind_some _ _).symm.trans H; with_reducible exact H2_) | with_reducible exact H | (rw [H5]; exact H) | exact H
       have afI := af.mk H5; clear H5; have H' := af.mk H; clear H; have abe : 0 ≤ (lv : Int) := of_decide_eq_true (by first | (with_reducible assumption) | assumption); have abf : lv < (l0.length : Int) := of_decide_eq_true (by first | (with_reducible assumption) | assumption); obtain ⟨aly, e126, EK⟩ := Kd.dA HR0.out lv abe abf; cases e126; replace EK := (HB.out.cell (World.block_lt_of_cell? w _ EK)).trans EK; replace abe := eq_true abe; replace abf := eq_true abf; go_wp2_with (first | ((with_reducible refine dQ (f := 11) rfl ?_); refine gY (some 14) rfl rfl Try.func11 (by kernel_rfl) rfl #[.int .u64 (rd l0 lv)] rfl (by (try simp only [List.map_toArray, List.map_cons, List.map_nil]); first | done | rfl | (simp only [List.length_drop, List.length_take]; rfl)) ?_; (with_reducible refine (bU.calls k1 (rd l0 lv) t127 _ A5.out).mono ?_); rintro e w8 ⟨am6, rfl, ho0, hb⟩; refine ⟨_, rfl, ?_⟩; have n0_ := af.mk (Kd.o7 (by (with_reducible repeat (first | apply Kd.gU | apply Kd.gV | apply Kd.iW)); exact gT.out) hb); have n1_ := af.mk (Kd.dW ho0 (aD (by repeat (first | (with_reducible first | exact HB.out | apply ai | apply ah | apply ak) | exact HB.out)))); have n2_ := af.mk (az (by repeat (first | (with_reducible first | exact HB.out | apply ai | apply ah | apply ak) | exact HB.out)) hb); clear gT; clear HB; have gT := n0_; have vN := n1_; have HB := n2_; clear n0_ n1_ n2_; (try clear hb); (try clear hb2); (try clear hk); (try clear hi); (try clear ho0); obtain ⟨Ao9, co9, eo9⟩ := Kd.bL vN.out; subst eo9) | ((with_reducible refine dQ (f := 21) rfl ?_); refine gY (some 15) rfl rfl Try.func21 (by kernel_rfl) rfl #[.slice Ao9 t127.length co9] rfl (by (try simp only [List.map_toArray, List.map_cons, List.map_nil]); first | done | rfl | (simp only [List.length_drop, List.length_take]; rfl)) ?_; (with_reducible refine (aN.calls k1 _ _ t127 t130 _ ?iG ?iR A6.out).mono ?_); (case iG => repeat (first | exact (Kd.bX vN.out).2.2 | (with_reducible refine Kd.eF ?_ _) | (with_reducible refine Kd.eG ?_ _) | (with_reducible refine Kd.fJ ?_))); (case iR => exact (Kd.bX vN.out).2.1); rintro e w10 ⟨v131, rfl, ho0, hb⟩; refine ⟨_, rfl, ?_⟩; have n0_ := af.mk (Kd.yP (by (with_reducible repeat (first | apply Kd.gU | apply Kd.gV | apply Kd.iW)); exact gT.out) (Kd.gW ho0) hb); have n1_ := af.mk (Kd.dB (by (with_reducible repeat (first | apply Kd.bi | apply Kd.bn | apply Kd.bD)); exact vN.out) hb); have n2_ := af.mk (Kd.dW ho0 (aD (by repeat (first | (with_reducible first | exact HB.out | apply ai | apply ah | apply ak) | exact HB.out)))); have n3_ := af.mk (az (by repeat (first | (with_reducible first | exact HB.out | apply ai | apply ah | apply ak) | exact HB.out)) hb); clear gT; clear vN; clear HB; have gT := n0_; have vN := n1_; have Mt := n2_; have HB := n3_; clear n0_ n1_ n2_ n3_; (try clear hb); (try clear hb2); (try clear hk); (try clear hi); (try clear ho0); obtain ⟨afJ, Yg, Tc⟩ := Kd.bL Mt.out; subst Tc) | ((with_reducible refine eZ (b := .append) (xs := #[.tmp 12, .tmp 16]) rfl ?_); at_builtin; refine Kd.yQ (Kd.slice 73 (Kd.int .u32)) (w0 := w) w.heap.size rfl (.tmp 12) (.tmp 16) 29 36 (.slice none 0 0) 24 rfl Try.underlying29 Jf rfl (by decide) (by omega) u3 eH t130 [.slice afJ t130.length Yg] (fun _ => True) (fun k_ => some k_ = (.slice afJ t130.length Yg : Value).ownBlock) rfl rfl ?aP (fun k_ hk_ => ((Kd.dV (ok' := fun k_ => ((fun _ => True)) k_ ∧ some k_ ≠ (u3 : Value).ownBlock) (Kd.nD (Mt.out) (Kd.kD gT.out) (by decide)) (fun k_ hk => ⟨trivial, hk.2⟩))).1 k_ hk_.symm) ?aF ?aO ?aB ?aS ?aL ?_; (case aP => exact Kd.KX (Kd.dV (Kd.lD rfl (Kd.dV (ok' := fun k_ => ((fun _ => True)) k_ ∧ some k_ ≠ (u3 : Value).ownBlock) (Kd.nD (Mt.out) (Kd.kD gT.out) (by decide)) (fun k_ hk => ⟨trivial, hk.2⟩))) (fun _ h_ => h_))); (case aB => exact (by repeat (first | (with_reducible first | exact HB.out | apply ai | apply ah | apply ak) | exact HB.out))); (case aF => exact (fun _ _ => trivial)); (case aO => exact (by (with_reducible repeat (first | apply Kd.gU | apply Kd.gV | apply Kd.iW)); exact Kd.vS gT.out (fun k_ hk => ⟨trivial, fun e_ => hk.2 e_⟩))); (case aS => exact (aD (by repeat (first | (with_reducible first | exact HB.out | apply ai | apply ah | apply ak) | exact HB.out)))); (case aL => have := Yq.out; omega); intro am7 w11 ho hb hg hat; rw [← afI.out] at ho; have n0_ := af.mk (Kd.o8 (by (with_reducible repeat (first | apply Kd.bi | apply Kd.bn | apply Kd.bD)); exact vN.out) (Kd.kD (by (with_reducible repeat (first | apply Kd.gU | apply Kd.gV | apply Kd.iW)); exact gT.out)) (by decide) hg); have n1_ := af.mk (hb); have n2_ := af.mk (ho); clear vN; clear HB; clear gT; clear Mt; have vN := n0_; have HB := n1_; have afK := n2_; clear n0_ n1_ n2_; clear ho hb hg hat))
       go_roundg k1
       case measure => have := HK1.out; omega
       case rel => exact ⟨(afH), (wrap64 (lv + 1)), (by first | rfl | (simp; done) | (simp [*]; done) | (simp; omega)), H', ⟨by have := HK1.out; omega⟩, ⟨by (with_reducible repeat (first | apply Kd.gU | apply Kd.gV | apply Kd.iW)); exact afK.out⟩, ⟨by repeat (first | (with_reducible first | exact HB.out | apply ai | apply ah | apply ak) | exact HB.out)⟩⟩
      ·rw [if_neg c7] at H; exact absurd H (by simp)
     ·rw [if_neg c4] at H; exact absurd H (by simp)
    ·rw [if_neg c3] at H; exact absurd H (by simp)
   ·rw [if_neg c2] at H; have Ih : decide (lv < (l0.length : Int)) = false := decide_eq_false c2; clear c2; obtain rfl := Option.some.inj H; go_wp2; go_ret; exact ⟨_, by first | rfl | (simp [aV, aW] <;> rfl) | (simp [*, aV, aW] <;> rfl), by (with_reducible repeat (first | apply Kd.gU | apply Kd.gV | apply Kd.iW)); exact gT.out, by repeat (first | (with_reducible first | exact HB.out | apply ai | apply ah | apply ak) | exact HB.out)⟩
end Go.Proofs.Ytkgeihbcikiedaa.P
