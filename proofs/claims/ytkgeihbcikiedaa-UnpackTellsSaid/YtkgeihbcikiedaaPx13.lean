/- The contracts of cmp_Compare_uint32, nat_Cmp that are used here, at all inputs where their Lean functions tell a result; cut out of what a changed copy of the kit's print wrote. -/
import Derived.Test.YtkgeihbcikiedaaPx0
import Derived.Test.YtkgeihbcikiedaaPx11
import Derived.Test.YtkgeihbcikiedaaPx12
namespace Go.Proofs.Ytkgeihbcikiedaa.P
open Go.RowKit Go.Proofs.YtkgeihbcikiedaaW.PrintWords Go.Proofs.YtkgeihbcikiedaaW.PrintLast Go.Proofs.YtkgeihbcikiedaaW.PrintMore
attribute [local go_sem] eU eX fU fV dX dY eZ fo
set_option linter.unusedVariables false
set_option linter.unusedSimpArgs false
def fK.f (a0 : Int) (a1 : Int) : Option (Int) := (cu.f a0).bind fun Kn => ((cu.f a1).bind fun tQ => (if Kn = true then (if tQ = true then (some 0) else (some (-1))) else (if tQ = true then (some 1) else (if a0 < a1 then (some (-1)) else (if a0 > a1 then (some 1) else (some 0))))))
set_option maxHeartbeats 8000000 in
set_option maxRecDepth 100000 in
theorem fK.calls (a0 : Int) (a1 : Int) (r : Int) (w : World) (h : fK.f a0 a1 = some r) :
 Calls Try.prog 94 #[.int .u32 a0, .int .u32 a1] w fun e w' => e = .returned (.int .i64 r) ∧ bF w w' := by
 have H : ((cu.f a0).bind fun Kn => ((cu.f a1).bind fun tQ => (if Kn = true then (if tQ = true then (some 0) else (some (-1))) else (if tQ = true then (some 1) else (if a0 < a1 then (some (-1)) else (if a0 > a1 then (some 1) else (some 0))))))) = some r := h; clear h; replace H := Option.bind_eq_some_iff.mp H; obtain ⟨Kn, A30, H⟩ := H; replace H : ((cu.f a1).bind fun tQ => (if Kn = true then (if tQ = true then (some 0) else (some (-1))) else (if tQ = true then (some 1) else (if a0 < a1 then (some (-1)) else (if a0 > a1 then (some 1) else (some 0)))))) = some r := H; have A3 := af.mk A30; clear A30; replace H := Option.bind_eq_some_iff.mp H; obtain ⟨tQ, A40, H⟩ := H; replace H : (if Kn = true then (if tQ = true then (some 0) else (some (-1))) else (if tQ = true then (some 1) else (if a0 < a1 then (some (-1)) else (if a0 > a1 then (some 1) else (some 0))))) = some r := H; have A4 := af.mk A40; clear A40
 by_cases c5 : Kn = true
 ·subst c5
  have H1 : (if tQ = true then (some 0) else (some (-1))) = some r := by rw [if_pos rfl] at H; exact H
  clear H; have H := H1; clear H1
  by_cases c6 : tQ = true
  ·subst c6
   have H1 : (some 0) = some r := by rw [if_pos rfl] at H; exact H
   clear H; have H := H1; clear H1; obtain rfl := Option.some.inj H
   go_enter Try.func94, Try.ntmps94
   go_wp2_with (first | ((with_reducible refine aZ (f := 102) rfl ?_); refine dG (some 8) rfl rfl Try.func102 (by kernel_rfl) rfl #[.int .u32 a0] rfl (by (try simp only [List.map_toArray, List.map_cons, List.map_nil]); first | done | rfl | (simp only [List.length_drop, List.length_take]; rfl)) ?_; (with_reducible refine (cu.calls a0 true _ A3.out).mono ?_); rintro e w' ⟨rfl, ⟨nd, rfl⟩⟩; refine ⟨_, rfl, ?_⟩) | ((with_reducible refine aZ (f := 102) rfl ?_); refine dG (some 10) rfl rfl Try.func102 (by kernel_rfl) rfl #[.int .u32 a1] rfl (by (try simp only [List.map_toArray, List.map_cons, List.map_nil]); first | done | rfl | (simp only [List.length_drop, List.length_take]; rfl)) ?_; (with_reducible refine (cu.calls a1 true _ A4.out).mono ?_); rintro e w' ⟨rfl, ⟨nd, rfl⟩⟩; refine ⟨_, rfl, ?_⟩)); go_ret; exact ⟨by first | rfl | (simp; done) | (simp [*]; done), by repeat (first | exact bF.refl _ | apply bF.step)⟩
  ·replace c6 := Bool.eq_false_iff.mpr c6; subst c6
   have H1 : (some (-1)) = some r := by rw [if_neg (show ¬ (false = true) by decide)] at H; exact H
   clear H; have H := H1; clear H1; obtain rfl := Option.some.inj H
   go_enter Try.func94, Try.ntmps94
   go_wp2_with (first | ((with_reducible refine aZ (f := 102) rfl ?_); refine dG (some 8) rfl rfl Try.func102 (by kernel_rfl) rfl #[.int .u32 a0] rfl (by (try simp only [List.map_toArray, List.map_cons, List.map_nil]); first | done | rfl | (simp only [List.length_drop, List.length_take]; rfl)) ?_; (with_reducible refine (cu.calls a0 true _ A3.out).mono ?_); rintro e w' ⟨rfl, ⟨nd, rfl⟩⟩; refine ⟨_, rfl, ?_⟩) | ((with_reducible refine aZ (f := 102) rfl ?_); refine dG (some 10) rfl rfl Try.func102 (by kernel_rfl) rfl #[.int .u32 a1] rfl (by (try simp only [List.map_toArray, List.map_cons, List.map_nil]); first | done | rfl | (simp only [List.length_drop, List.length_take]; rfl)) ?_; (with_reducible refine (cu.calls a1 false _ A4.out).mono ?_); rintro e w' ⟨rfl, ⟨nd, rfl⟩⟩; refine ⟨_, rfl, ?_⟩)); go_ret; exact ⟨by first | rfl | (simp; done) | (simp [*]; done), by repeat (first | exact bF.refl _ | apply bF.step)⟩
 ·replace c5 := Bool.eq_false_iff.mpr c5; subst c5
  have H1 : (if tQ = true then (some 1) else (if a0 < a1 then (some (-1)) else (if a0 > a1 then (some 1) else (some 0)))) = some r := by rw [if_neg (show ¬ (false = true) by decide)] at H; exact H
  clear H; have H := H1; clear H1
  by_cases c7 : tQ = true
  ·subst c7
   have H1 : (some 1) = some r := by rw [if_pos rfl] at H; exact H
   clear H; have H := H1; clear H1; obtain rfl := Option.some.inj H
   go_enter Try.func94, Try.ntmps94
   go_wp2_with (first | ((with_reducible refine aZ (f := 102) rfl ?_); refine dG (some 8) rfl rfl Try.func102 (by kernel_rfl) rfl #[.int .u32 a0] rfl (by (try simp only [List.map_toArray, List.map_cons, List.map_nil]); first | done | rfl | (simp only [List.length_drop, List.length_take]; rfl)) ?_; (with_reducible refine (cu.calls a0 false _ A3.out).mono ?_); rintro e w' ⟨rfl, ⟨nd, rfl⟩⟩; refine ⟨_, rfl, ?_⟩) | ((with_reducible refine aZ (f := 102) rfl ?_); refine dG (some 10) rfl rfl Try.func102 (by kernel_rfl) rfl #[.int .u32 a1] rfl (by (try simp only [List.map_toArray, List.map_cons, List.map_nil]); first | done | rfl | (simp only [List.length_drop, List.length_take]; rfl)) ?_; (with_reducible refine (cu.calls a1 true _ A4.out).mono ?_); rintro e w' ⟨rfl, ⟨nd, rfl⟩⟩; refine ⟨_, rfl, ?_⟩)); go_ret; exact ⟨by first | rfl | (simp; done) | (simp [*]; done), by repeat (first | exact bF.refl _ | apply bF.step)⟩
  ·replace c7 := Bool.eq_false_iff.mpr c7; subst c7
   have H1 : (if a0 < a1 then (some (-1)) else (if a0 > a1 then (some 1) else (some 0))) = some r := by rw [if_neg (show ¬ (false = true) by decide)] at H; exact H
   clear H; have H := H1; clear H1
   by_cases c8 : a0 < a1
   ·rw [if_pos c8] at H; have kQ : decide (a0 < a1) = true := decide_eq_true c8; clear c8; obtain rfl := Option.some.inj H
    go_enter Try.func94, Try.ntmps94
    go_wp2_with (first | ((with_reducible refine aZ (f := 102) rfl ?_); refine dG (some 8) rfl rfl Try.func102 (by kernel_rfl) rfl #[.int .u32 a0] rfl (by (try simp only [List.map_toArray, List.map_cons, List.map_nil]); first | done | rfl | (simp only [List.length_drop, List.length_take]; rfl)) ?_; (with_reducible refine (cu.calls a0 false _ A3.out).mono ?_); rintro e w' ⟨rfl, ⟨nd, rfl⟩⟩; refine ⟨_, rfl, ?_⟩) | ((with_reducible refine aZ (f := 102) rfl ?_); refine dG (some 10) rfl rfl Try.func102 (by kernel_rfl) rfl #[.int .u32 a1] rfl (by (try simp only [List.map_toArray, List.map_cons, List.map_nil]); first | done | rfl | (simp only [List.length_drop, List.length_take]; rfl)) ?_; (with_reducible refine (cu.calls a1 false _ A4.out).mono ?_); rintro e w' ⟨rfl, ⟨nd, rfl⟩⟩; refine ⟨_, rfl, ?_⟩)); go_ret; exact ⟨by first | rfl | (simp; done) | (simp [*]; done), by repeat (first | exact bF.refl _ | apply bF.step)⟩
   ·rw [if_neg c8] at H; have kQ : decide (a0 < a1) = false := decide_eq_false c8; clear c8
    by_cases c9 : a0 > a1
    ·rw [if_pos c9] at H; have oO : decide (a1 < a0) = true := decide_eq_true c9; clear c9; obtain rfl := Option.some.inj H
     go_enter Try.func94, Try.ntmps94
     go_wp2_with (first | ((with_reducible refine aZ (f := 102) rfl ?_); refine dG (some 8) rfl rfl Try.func102 (by kernel_rfl) rfl #[.int .u32 a0] rfl (by (try simp only [List.map_toArray, List.map_cons, List.map_nil]); first | done | rfl | (simp only [List.length_drop, List.length_take]; rfl)) ?_; (with_reducible refine (cu.calls a0 false _ A3.out).mono ?_); rintro e w' ⟨rfl, ⟨nd, rfl⟩⟩; refine ⟨_, rfl, ?_⟩) | ((with_reducible refine aZ (f := 102) rfl ?_); refine dG (some 10) rfl rfl Try.func102 (by kernel_rfl) rfl #[.int .u32 a1] rfl (by (try simp only [List.map_toArray, List.map_cons, List.map_nil]); first | done | rfl | (simp only [List.length_drop, List.length_take]; rfl)) ?_; (with_reducible refine (cu.calls a1 false _ A4.out).mono ?_); rintro e w' ⟨rfl, ⟨nd, rfl⟩⟩; refine ⟨_, rfl, ?_⟩)); go_ret; exact ⟨by first | rfl | (simp; done) | (simp [*]; done), by repeat (first | exact bF.refl _ | apply bF.step)⟩
    ·rw [if_neg c9] at H; have oO : decide (a1 < a0) = false := decide_eq_false c9; clear c9; obtain rfl := Option.some.inj H
     go_enter Try.func94, Try.ntmps94
     go_wp2_with (first | ((with_reducible refine aZ (f := 102) rfl ?_); refine dG (some 8) rfl rfl Try.func102 (by kernel_rfl) rfl #[.int .u32 a0] rfl (by (try simp only [List.map_toArray, List.map_cons, List.map_nil]); first | done | rfl | (simp only [List.length_drop, List.length_take]; rfl)) ?_; (with_reducible refine (cu.calls a0 false _ A3.out).mono ?_); rintro e w' ⟨rfl, ⟨nd, rfl⟩⟩; refine ⟨_, rfl, ?_⟩) | ((with_reducible refine aZ (f := 102) rfl ?_); refine dG (some 10) rfl rfl Try.func102 (by kernel_rfl) rfl #[.int .u32 a1] rfl (by (try simp only [List.map_toArray, List.map_cons, List.map_nil]); first | done | rfl | (simp only [List.length_drop, List.length_take]; rfl)) ?_; (with_reducible refine (cu.calls a1 false _ A4.out).mono ?_); rintro e w' ⟨rfl, ⟨nd, rfl⟩⟩; refine ⟨_, rfl, ?_⟩)); go_ret; exact ⟨by first | rfl | (simp; done) | (simp [*]; done), by repeat (first | exact bF.refl _ | apply bF.step)⟩
def iM.l0 : Nat → List Int → List Int → Int → Option (Int)
 | 0, _, _, _ => none
 | k + 1, x0, x1, x5 => if x5 ≥ 0 then ((bV.f x0 x5).bind fun BI => ((bV.f x1 x5).bind fun Be => ((fK.f BI Be).bind fun qm => (if qm = 0 then (iM.l0 k x0 x1 (wrap64 (x5 - 1))) else (some qm))))) else (some 0)
def iM.f (k : Nat) (l0 : List Int) (l1 : List Int) : Option (Int) := iM.l0 k l0 l1 (wrap64 ((mx (l0.length : Int) (l1.length : Int)) - 1))
set_option maxHeartbeats 8000000 in
set_option maxRecDepth 100000 in
theorem iM.calls (k : Nat) (A0 : Option Addr) (c0 : Nat) (l0 : List Int) (A1 : Option Addr) (c1 : Nat) (l1 : List Int) (r : Int) (w : World) (hr0 : Kd.C (Kd.int .u32) w A0 l0.length l0) (hc0 : l0.length ≤ c0) (hr1 : Kd.C (Kd.int .u32) w A1 l1.length l1) (hc1 : l1.length ≤ c1) (h : iM.f k l0 l1 = some r) :
 Calls Try.prog 83 #[.slice A0 l0.length c0, .slice A1 l1.length c1] w fun e w' => e = .returned (.int .i64 r) ∧ Below w.heap.size w w' := by
 have HR0 := af.mk hr0; have HC0 := af.mk hc0; clear hr0 hc0; have HR1 := af.mk hr1; have HC1 := af.mk hc1; clear hr1 hc1; have HB := af.mk (Below.refl w.heap.size w); have H : (iM.l0 k l0 l1 (wrap64 ((mx (l0.length : Int) (l1.length : Int)) - 1))) = some r := h; clear h
 obtain ⟨ji3, l8⟩ : ∃ j_ : Int, (mx (l0.length : Int) (l1.length : Int)) = j_ := ⟨_, rfl⟩
 replace H : (iM.l0 k l0 l1 (wrap64 ((ji3) - 1))) = some r := by first | (rw [l8] at H; exact H) | (simp only [l8] at H ⊢; exact H)
 (try (have aci : 0 ≤ ji3 := by (rw [← l8]; unfold mx; (repeat' split) <;> omega)))
 (try (have acj : 0 ≤ ji3 := by omega))
 have WI : (if (l0.length : Int) < (l1.length : Int) then (l1.length : Int) else (l0.length : Int)) = ji3 := l8
 (try (have ak2 : (if l0.length < l1.length then (l1.length : Int) else (l0.length : Int)) = ji3 := by have h_ := WI; simp only [Int.ofNat_lt] at h_; exact h_))
 have H' := af.mk H; clear H
 go_enter Try.func83, Try.ntmps83
 go_wp2
 go_loopg [5] k (fun kq v5 w' => ∃ (eu : Int), v5 = .int .i64 eu ∧ af (iM.l0 kq l0 l1 eu = some r) ∧ af (kq ≤ k) ∧ af (Below w.heap.size w w'))
 case atStart => exact ⟨(wrap64 ((ji3) - 1)), (by first | rfl | (simp; done) | (simp only [← l8] <;> (first | rfl | simp)) | (simp [*]; done) | (simp; omega)), H', ⟨Nat.le_refl _⟩, ⟨by repeat (first | (with_reducible first | exact HB.out | apply ai | apply ah | apply aj) | exact HB.out)⟩⟩
 case round =>
  clear H'
  try clear c1
  try clear p2
  obtain ⟨eu, rfl, HA, HK1, HB⟩ := hrel
  cases gk with
  | zero => exact absurd HA.out (by simp [iM.l0])
  | succ k1 =>
   have H := HA.out; clear HA; simp only [iM.l0] at H
   by_cases c4 : eu ≥ 0
   ·rw [if_pos c4] at H; have jR : decide (0 ≤ eu) = true := decide_eq_true c4; clear c4; replace H := Option.bind_eq_some_iff.mp H; obtain ⟨BI, A50, H⟩ := H; replace H : ((bV.f l1 eu).bind fun Be => ((fK.f BI Be).bind fun qm => (if qm = 0 then (iM.l0 k1 l0 l1 (wrap64 (eu - 1))) else (some qm)))) = some r := H; have A5 := af.mk A50; clear A50; replace H := Option.bind_eq_some_iff.mp H; obtain ⟨Be, A60, H⟩ := H; replace H : ((fK.f BI Be).bind fun qm => (if qm = 0 then (iM.l0 k1 l0 l1 (wrap64 (eu - 1))) else (some qm))) = some r := H; have A6 := af.mk A60; clear A60; replace H := Option.bind_eq_some_iff.mp H; obtain ⟨qm, A70, H⟩ := H; replace H : (if qm = 0 then (iM.l0 k1 l0 l1 (wrap64 (eu - 1))) else (some qm)) = some r := H; have A7 := af.mk A70; clear A70
    by_cases c8 : qm = 0
    ·rw [if_pos c8] at H; have kQ : (qm == 0) = true := beq_iff_eq.mpr c8; have IJ : (qm != 0) = false := bne_eq_false_iff_eq.mpr c8; clear c8; have H' := af.mk H; clear H; go_wp2_with (first | ((with_reducible refine aZ (f := 59) rfl ?_); refine dG (some 19) rfl rfl Try.func59 (by kernel_rfl) rfl #[.slice A0 l0.length c0, .int .i64 eu] rfl (by (try simp only [List.map_toArray, List.map_cons, List.map_nil]); first | done | rfl | (simp only [List.length_drop, List.length_take]; rfl)) ?_; (with_reducible refine (bV.calls _ _ l0 eu BI _ ?dQ ?fC A5.out).mono ?_); (case dQ => repeat (first | exact (Kd.bR HR0.out HB.out) | (with_reducible refine Kd.dB ?_ _) | (with_reducible refine Kd.dC ?_ _) | (with_reducible refine Kd.eD ?_))); (case fC => exact HC0.out); rintro e w' ⟨rfl, ⟨nd, rfl⟩⟩; refine ⟨_, rfl, ?_⟩) | ((with_reducible refine aZ (f := 59) rfl ?_); refine dG (some 22) rfl rfl Try.func59 (by kernel_rfl) rfl #[.slice A1 l1.length c1, .int .i64 eu] rfl (by (try simp only [List.map_toArray, List.map_cons, List.map_nil]); first | done | rfl | (simp only [List.length_drop, List.length_take]; rfl)) ?_; (with_reducible refine (bV.calls _ _ l1 eu Be _ ?dQ ?fC A6.out).mono ?_); (case dQ => repeat (first | exact (Kd.bR HR1.out (by repeat (first | (with_reducible first | exact HB.out | apply ai | apply ah | apply aj) | exact HB.out))) | (with_reducible refine Kd.dB ?_ _) | (with_reducible refine Kd.dC ?_ _) | (with_reducible refine Kd.eD ?_))); (case fC => exact HC1.out); rintro e w' ⟨rfl, ⟨nd, rfl⟩⟩; refine ⟨_, rfl, ?_⟩) | ((with_reducible refine aZ (f := 94) rfl ?_); refine dG (some 23) rfl rfl Try.func94 (by kernel_rfl) rfl #[.int .u32 BI, .int .u32 Be] rfl (by (try simp only [List.map_toArray, List.map_cons, List.map_nil]); first | done | rfl | (simp only [List.length_drop, List.length_take]; rfl)) ?_; (with_reducible refine (fK.calls BI Be qm _ A7.out).mono ?_); rintro e w' ⟨rfl, ⟨nd, rfl⟩⟩; refine ⟨_, rfl, ?_⟩))
     go_roundg k1
     case measure => have := HK1.out; omega
     case rel => exact ⟨(wrap64 (eu - 1)), (by first | rfl | (simp; done) | (simp [*]; done) | (simp; omega)), H', ⟨by have := HK1.out; omega⟩, ⟨by repeat (first | (with_reducible first | exact HB.out | apply ai | apply ah | apply aj) | exact HB.out)⟩⟩
    ·rw [if_neg c8] at H; have kQ : (qm == 0) = false := beq_eq_false_iff_ne.mpr c8; have IJ : (qm != 0) = true := bne_iff_ne.mpr c8; obtain rfl := Option.some.inj H; go_wp2_with (first | ((with_reducible refine aZ (f := 59) rfl ?_); refine dG (some 19) rfl rfl Try.func59 (by kernel_rfl) rfl #[.slice A0 l0.length c0, .int .i64 eu] rfl (by (try simp only [List.map_toArray, List.map_cons, List.map_nil]); first | done | rfl | (simp only [List.length_drop, List.length_take]; rfl)) ?_; (with_reducible refine (bV.calls _ _ l0 eu BI _ ?dQ ?fC A5.out).mono ?_); (case dQ => repeat (first | exact (Kd.bR HR0.out HB.out) | (with_reducible refine Kd.dB ?_ _) | (with_reducible refine Kd.dC ?_ _) | (with_reducible refine Kd.eD ?_))); (case fC => exact HC0.out); rintro e w' ⟨rfl, ⟨nd, rfl⟩⟩; refine ⟨_, rfl, ?_⟩) | ((with_reducible refine aZ (f := 59) rfl ?_); refine dG (some 22) rfl rfl Try.func59 (by kernel_rfl) rfl #[.slice A1 l1.length c1, .int .i64 eu] rfl (by (try simp only [List.map_toArray, List.map_cons, List.map_nil]); first | done | rfl | (simp only [List.length_drop, List.length_take]; rfl)) ?_; (with_reducible refine (bV.calls _ _ l1 eu Be _ ?dQ ?fC A6.out).mono ?_); (case dQ => repeat (first | exact (Kd.bR HR1.out (by repeat (first | (with_reducible first | exact HB.out | apply ai | apply ah | apply aj) | exact HB.out))) | (with_reducible refine Kd.dB ?_ _) | (with_reducible refine Kd.dC ?_ _) | (with_reducible refine Kd.eD ?_))); (case fC => exact HC1.out); rintro e w' ⟨rfl, ⟨nd, rfl⟩⟩; refine ⟨_, rfl, ?_⟩) | ((with_reducible refine aZ (f := 94) rfl ?_); refine dG (some 23) rfl rfl Try.func94 (by kernel_rfl) rfl #[.int .u32 BI, .int .u32 Be] rfl (by (try simp only [List.map_toArray, List.map_cons, List.map_nil]); first | done | rfl | (simp only [List.length_drop, List.length_take]; rfl)) ?_; (with_reducible refine (fK.calls BI Be qm _ A7.out).mono ?_); rintro e w' ⟨rfl, ⟨nd, rfl⟩⟩; refine ⟨_, rfl, ?_⟩)); go_ret; exact ⟨by first | rfl | (simp [aD, aG] <;> rfl) | (simp only [← l8]; first | rfl | (simp [aD, aG] <;> rfl)) | (simp [*, aD, aG] <;> rfl), by repeat (first | (with_reducible first | exact HB.out | apply ai | apply ah | apply aj) | exact HB.out)⟩
   ·rw [if_neg c4] at H; have jR : decide (0 ≤ eu) = false := decide_eq_false c4; clear c4; obtain rfl := Option.some.inj H; go_wp2; go_ret; exact ⟨by first | rfl | (simp [aD, aG] <;> rfl) | (simp only [← l8]; first | rfl | (simp [aD, aG] <;> rfl)) | (simp [*, aD, aG] <;> rfl), by repeat (first | (with_reducible first | exact HB.out | apply ai | apply ah | apply aj) | exact HB.out)⟩
end Go.Proofs.Ytkgeihbcikiedaa.P
