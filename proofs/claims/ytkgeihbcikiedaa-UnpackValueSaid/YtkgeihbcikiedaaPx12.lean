/- The contracts of nat_Nat_Right, nat_Nat_Word, nat_Nat_Left, cmp_isNaN_uint32 that are used here, at all inputs where their Lean functions tell a result; cut out of what a changed copy of the kit's print wrote. -/
import Derived.Test.YtkgeihbcikiedaaPx0
import Derived.Test.YtkgeihbcikiedaaPx1
import Derived.Test.YtkgeihbcikiedaaPx11
namespace Go.Proofs.Ytkgeihbcikiedaa.P
open Go.RowKit Go.Proofs.YtkgeihbcikiedaaW.PrintWords Go.Proofs.YtkgeihbcikiedaaW.PrintLast Go.Proofs.YtkgeihbcikiedaaW.PrintMore
attribute [local go_sem] eU eX fU fV dX dY eZ fo
set_option linter.unusedVariables false
set_option linter.unusedSimpArgs false
mutual
def bH.j0 : Nat → List Int → Int → Bool → Option (List Int × Bool)
 | 0, _, _, _ => none
 | k + 1, x0, x1, x7 => if 0 ≤ (x0.length : Int) then (if ((x0.length : Int) : Int).toNat ≤ 70368744177664 then ((some (List.replicate ((x0.length : Int) : Int).toNat 0 : List Int)).bind fun rU => (bH.l0 k x0 x1 x7 rU (rU.length : Int) 0)) else (none)) else (none)
def bH.l0 : Nat → List Int → Int → Bool → List Int → Int → Int → Option (List Int × Bool)
 | 0, _, _, _, _, _, _ => none
 | k + 1, x0, x1, x7, x8, x30, x31 => if x31 < x30 then ((bV.f x0 (wrap64 ((wrap64 (x31 + (wrap64 (Int.tdiv x1 32)))) + 1))).bind fun CZ => ((bV.f x0 (wrap64 (x31 + (wrap64 (Int.tdiv x1 32))))).bind fun Bp => (if 0 ≤ (Int.tmod x1 32) then (if 0 ≤ x31 then (if x31 < (x8.length : Int) then (bH.l0 k x0 x1 x7 (x8.set (x31 : Int).toNat ((shr .u64 (Go.bits .or .u64 (IntKind.u64.wrap ((IntKind.u64.wrap (CZ)) * 4294967296)) (IntKind.u64.wrap (Bp))) (Int.tmod x1 32)) % 4294967296)) x30 (wrap64 (x31 + 1))) else (none)) else (none)) else (none)))) else ((mX.f k x8).bind fun Tc => (some (Tc, x7)))
end
def bH.f (k : Nat) (l0 : List Int) (a1 : Int) : Option (List Int × Bool) := (dV.f k l0).bind fun nG => (if (mn (mx a1 0) nG) > 0 then ((dD.f k l0).bind fun vR => (bH.j0 k l0 (mn (mx a1 0) nG) (decide (vR < (mn (mx a1 0) nG))))) else (bH.j0 k l0 (mn (mx a1 0) nG) false))
set_option maxHeartbeats 8000000 in
set_option maxRecDepth 100000 in
theorem bH.calls (k : Nat) (A0 : Option Addr) (c0 : Nat) (l0 : List Int) (a1 : Int) (r1 : List Int) (r2 : Bool) (w : World) (hr0 : Kd.C (Kd.int .u32) w A0 l0.length l0) (hc0 : l0.length ≤ c0) (h : bH.f k l0 a1 = some (r1, r2)) :
 Calls Try.prog 92 #[.slice A0 l0.length c0, .int .i64 a1] w fun e w' => ∃ v0_ : Value, e = .returned (.tuple #[v0_, .bool r2]) ∧ Kd.V (Kd.int .u32) 73 w' w.heap.size (fun k_ => (w.heap.size ≤ k_)) v0_ r1 ∧ Below w.heap.size w w' := by
 have HR0 := af.mk hr0; have HC0 := af.mk hc0; clear hr0 hc0; have HB := af.mk (Below.refl w.heap.size w); have H : ((dV.f k l0).bind fun nG => (if (mn (mx a1 0) nG) > 0 then ((dD.f k l0).bind fun vR => (bH.j0 k l0 (mn (mx a1 0) nG) (decide (vR < (mn (mx a1 0) nG))))) else (bH.j0 k l0 (mn (mx a1 0) nG) false))) = some (r1, r2) := h; clear h; replace H := Option.bind_eq_some_iff.mp H; obtain ⟨nG, A30, H⟩ := H; replace H : (if (mn (mx a1 0) nG) > 0 then ((dD.f k l0).bind fun vR => (bH.j0 k l0 (mn (mx a1 0) nG) (decide (vR < (mn (mx a1 0) nG))))) else (bH.j0 k l0 (mn (mx a1 0) nG) false)) = some (r1, r2) := H; have A3 := af.mk A30; clear A30
 obtain ⟨ji4, Nk⟩ : ∃ j_ : Int, (mx a1 0) = j_ := ⟨_, rfl⟩
 replace H : (if (mn (ji4) nG) > 0 then ((dD.f k l0).bind fun vR => (bH.j0 k l0 (mn (ji4) nG) (decide (vR < (mn (ji4) nG))))) else (bH.j0 k l0 (mn (ji4) nG) false)) = some (r1, r2) := by first | (rw [Nk] at H; exact H) | (simp only [Nk] at H ⊢; exact H)
 (try rw [Nk] at A3)
 (try (have akc : 0 ≤ ji4 := by (rw [← Nk]; unfold mx; (repeat' split) <;> omega)))
 (try (have akd : 0 ≤ ji4 := by omega))
 have ake : (if a1 < 0 then 0 else a1) = ji4 := Nk
 obtain ⟨ji5, Ff⟩ : ∃ j_ : Int, (mn (ji4) nG) = j_ := ⟨_, rfl⟩
 replace H : (if (ji5) > 0 then ((dD.f k l0).bind fun vR => (bH.j0 k l0 ji5 (decide (vR < (ji5))))) else (bH.j0 k l0 ji5 false)) = some (r1, r2) := by first | (rw [Ff] at H; exact H) | (simp only [Ff] at H ⊢; exact H)
 (try rw [Ff] at A3)
 have akf : (if nG < (ji4) then nG else (ji4)) = ji5 := Ff; have HC6 := af.mk H; clear H
 go_enter Try.func92, Try.ntmps92
 go_upto_region 3 with (first | ((with_reducible refine aZ (f := 81) rfl ?_); refine dG (some 13) rfl rfl Try.func81 (by kernel_rfl) rfl #[.slice A0 l0.length c0] rfl (by (try simp only [List.map_toArray, List.map_cons, List.map_nil]); first | done | rfl | (simp only [List.length_drop, List.length_take]; rfl)) ?_; (with_reducible refine (dV.calls k _ _ l0 nG _ ?dQ ?fC A3.out).mono ?_); (case dQ => repeat (first | exact HR0.out | (with_reducible refine Kd.dB ?_ _) | (with_reducible refine Kd.dC ?_ _) | (with_reducible refine Kd.eD ?_))); (case fC => exact HC0.out); rintro e w7 ⟨rfl, hb⟩; refine ⟨_, rfl, ?_⟩; have n0_ := af.mk (aA (by repeat (first | (with_reducible first | exact HB.out | apply ai | apply ah | apply aj) | exact HB.out)) hb); clear HB; have HB := n0_; clear n0_; (try clear hb); (try clear hb2); (try clear hk); (try clear hi)))
 (try simp only [Act.put, List.setIfInBounds_toArray, List.set_cons_zero, List.set_cons_succ])
 go_cut [7] (fun v7 wc => ∃ (kq : Nat) (yD : Bool), v7 = .bool yD ∧ af (bH.j0 kq l0 ji5 yD = some (r1, r2)) ∧ af (kq ≤ k) ∧ af (Below w.heap.size w wc))
 case first =>
  have H := HC6.out; clear HC6
  by_cases c8 : (ji5) > 0
  ·rw [if_pos c8] at H; have kQ : decide (0 < (ji5)) = true := decide_eq_true c8; clear c8
   (first | rw [kQ] | (simp only [aU, aV]; rw [kQ]) | skip)
   replace H := Option.bind_eq_some_iff.mp H; obtain ⟨vR, A90, H⟩ := H; replace H : (bH.j0 k l0 ji5 (decide (vR < (ji5)))) = some (r1, r2) := H; have A9 := af.mk A90; clear A90; have H' := af.mk H; clear H; go_wp2_with (first | (go_at_call 91; (with_reducible refine (dD.calls k _ _ l0 vR _ ?dQ ?fC A9.out).mono ?_); (case dQ => repeat (first | exact (Kd.bR HR0.out HB.out) | (with_reducible refine Kd.dB ?_ _) | (with_reducible refine Kd.dC ?_ _) | (with_reducible refine Kd.eD ?_))); (case fC => exact HC0.out); rintro e w' ⟨rfl, ⟨nd, rfl⟩⟩))
   go_meet
   case rel => exact ⟨_, (decide (vR < (ji5))), (by first | rfl | (simp; done) | (simp only [← Ff] <;> (first | rfl | simp)) | (simp [*]; done) | (simp; omega)), H', ⟨by first | omega | exact Nat.le_refl _⟩, ⟨by repeat (first | (with_reducible first | exact HB.out | apply ai | apply ah | apply aj) | exact HB.out)⟩⟩
  ·rw [if_neg c8] at H; have kQ : decide (0 < (ji5)) = false := decide_eq_false c8; clear c8
   (first | rw [kQ] | (simp only [aU, aV]; rw [kQ]) | skip)
   have H' := af.mk H; clear H; go_wp2
   go_meet
   case rel => exact ⟨_, (false), (by first | rfl | (simp; done) | (simp [*]; done) | (simp; omega)), H', ⟨by first | omega | exact Nat.le_refl _⟩, ⟨by repeat (first | (with_reducible first | exact HB.out | apply ai | apply ah | apply aj) | exact HB.out)⟩⟩
 case rest =>
  clear HC6
  try clear p2
  try clear c8
  try clear kQ
  try clear c9
  obtain ⟨kq, yD, rfl, HA, HJ5, HB⟩ := hcut
  cases kq with
  | zero => exact absurd HA.out (by simp [bH.j0])
  | succ kj5 =>
   have H := HA.out; clear HA; simp only [bH.j0] at H
   by_cases c10 : 0 ≤ (l0.length : Int)
   ·rw [if_pos c10] at H; have rW := eq_true c10; have Fg : decide (0 ≤ (l0.length : Int)) = true := decide_eq_true c10; clear c10
    by_cases c11 : ((l0.length : Int) : Int).toNat ≤ 70368744177664
    ·rw [if_pos c11] at H; have kK := eq_true c11; have wZ : decide (((l0.length : Int) : Int).toNat ≤ 70368744177664) = true := decide_eq_true c11; clear c11
     obtain ⟨rU, Fh⟩ : ∃ y_ : List Int, y_ = (List.replicate ((l0.length : Int) : Int).toNat 0) := ⟨_, rfl⟩
     replace H : (bH.l0 kj5 l0 ji5 yD rU (rU.length : Int) 0) = some (r1, r2) := by first | (rw [Fh]; with_reducible exact H) | (have H2_ := (Option.bind_some _ _).symm.trans H; rw [Fh]; with_reducible exact H2_) | (have H2_ := (Option.bind_some _ _).symm.trans H; with_reducible exact H2_) | with_reducible exact H | (rw [Fh]; exact H) | exact H
     have Wo := af.mk Fh; clear Fh; have H' := af.mk H; clear H; go_wp2_with (first | ((with_reducible refine bS (N := 28) rfl ?_); refine Kd.oM (Kd.int .u32) _ 73 rfl (N := 28) rfl 67 _ _ rfl (l0.length : Int) rfl rfl Try.underlying67 (.int .u32 0) 4 yE rfl (by decide) (by omega) 0 (ok := fun _ => True) (okp := fun _ => True) rfl (fun _ hk => hk) trivial (of_decide_eq_true (by first | (with_reducible assumption) | assumption)) (Nat.le_trans (Nat.mul_le_mul_right _ (of_decide_eq_true (by first | (with_reducible assumption) | assumption) : (l0.length : Int).toNat ≤ 70368744177664)) (by omega)) (Below.refl _ _) (Nat.le_refl _) ?_; intro alo w12 C8 hb hg_ hnew_; clear hg_ hnew_; (first | rw [← Wo.out] at C8 | (simp only [Int.reduceToNat] at C8; rw [← Wo.out] at C8)); have n0_ := af.mk (Kd.fA (Kd.CY (M := fun k_ => (w.heap.size ≤ k_)) C8 (az (by repeat (first | (with_reducible first | exact HB.out | apply ai | apply ah | apply aj) | exact HB.out))) (fun k_ h_ => h_)) (az (by repeat (first | (with_reducible first | exact HB.out | apply ai | apply ah | apply aj) | exact HB.out)))); have n1_ := af.mk (aA (by repeat (first | (with_reducible first | exact HB.out | apply ai | apply ah | apply aj) | exact HB.out)) hb); clear HB; have Wp := n0_; have HB := n1_; clear n0_ n1_; clear hb C8; obtain ⟨Nl, IQ, Yn⟩ := Kd.bQ Wp.out; subst Yn))
     go_loopg [31] kj5 (fun kq v31 w' => ∃ (jf : List Int) (gF : Int), v31 = .int .i64 gF ∧ af (bH.l0 kq l0 ji5 yD jf (rU.length : Int) gF = some (r1, r2)) ∧ af (kq ≤ kj5) ∧ af (Kd.R (Kd.int .u32) 73 w' w.heap.size (fun k_ => (w.heap.size ≤ k_)) (.slice Nl rU.length IQ) jf) ∧ af (Below w.heap.size w w'))
     case atStart => exact ⟨(rU), (0), (by first | rfl | (simp; done) | (simp [*]; done) | (simp; omega)), H', ⟨Nat.le_refl _⟩, ⟨by (with_reducible repeat (first | apply Kd.aW | apply Kd.aX | apply Kd.bn)); exact Kd.eG Wp.out (fun _ hk => hk.1)⟩, ⟨by repeat (first | (with_reducible first | exact HB.out | apply ai | apply ah | apply aj) | exact HB.out)⟩⟩
     case round =>
      clear H'
      try clear c1
      try clear p2
      try clear c8
      try clear kQ
      try clear c9
      try clear c10
      try clear rW
      try clear Fg
      try clear c11
      try clear kK
      try clear wZ
      try clear p2
      obtain ⟨jf, gF, rfl, HA, HK2, gB, HB⟩ := hrel; have yF := (Kd.bY gB.out).1; rw [yF] at gB
      (try simp only [yF])
      cases gk with
      | zero => exact absurd HA.out (by simp [bH.l0])
      | succ k2 =>
       have H := HA.out; clear HA; simp only [bH.l0] at H
       by_cases c15 : gF < (rU.length : Int)
       ·rw [if_pos c15] at H; have qA : decide (gF < (rU.length : Int)) = true := decide_eq_true c15
        (try (have qB := qA; rw [yF] at qB))
        clear c15; replace H := Option.bind_eq_some_iff.mp H; obtain ⟨CZ, abS, H⟩ := H; replace H : ((bV.f l0 (wrap64 (gF + (wrap64 (Int.tdiv ji5 32))))).bind fun Bp => (if 0 ≤ (Int.tmod ji5 32) then (if 0 ≤ gF then (if gF < (jf.length : Int) then (bH.l0 k2 l0 ji5 yD (jf.set (gF : Int).toNat ((shr .u64 (Go.bits .or .u64 (IntKind.u64.wrap ((IntKind.u64.wrap (CZ)) * 4294967296)) (IntKind.u64.wrap (Bp))) (Int.tmod ji5 32)) % 4294967296)) (rU.length : Int) (wrap64 (gF + 1))) else (none)) else (none)) else (none))) = some (r1, r2) := H; have A16 := af.mk abS; clear abS; replace H := Option.bind_eq_some_iff.mp H; obtain ⟨Bp, Pg, H⟩ := H; replace H : (if 0 ≤ (Int.tmod ji5 32) then (if 0 ≤ gF then (if gF < (jf.length : Int) then (bH.l0 k2 l0 ji5 yD (jf.set (gF : Int).toNat ((shr .u64 (Go.bits .or .u64 (IntKind.u64.wrap ((IntKind.u64.wrap (CZ)) * 4294967296)) (IntKind.u64.wrap (Bp))) (Int.tmod ji5 32)) % 4294967296)) (rU.length : Int) (wrap64 (gF + 1))) else (none)) else (none)) else (none)) = some (r1, r2) := H; have A17 := af.mk Pg; clear Pg
        obtain ⟨Fj, KZ⟩ : ∃ j_ : Int, (Int.tmod ji5 32) = j_ := ⟨_, rfl⟩
        replace H : (if 0 ≤ (Fj) then (if 0 ≤ gF then (if gF < (jf.length : Int) then (bH.l0 k2 l0 ji5 yD (jf.set (gF : Int).toNat ((shr .u64 (Go.bits .or .u64 (IntKind.u64.wrap ((IntKind.u64.wrap (CZ)) * 4294967296)) (IntKind.u64.wrap (Bp))) (Fj)) % 4294967296)) (rU.length : Int) (wrap64 (gF + 1))) else (none)) else (none)) else (none)) = some (r1, r2) := by first | (rw [KZ] at H; exact H) | (simp only [KZ] at H ⊢; exact H)
        (try rw [KZ] at A16)
        (try rw [KZ] at A17)
        by_cases c19 : 0 ≤ (Fj)
        ·rw [if_pos c19] at H; have Wq := eq_true c19; have akg : decide (0 ≤ (Fj)) = true := decide_eq_true c19; clear c19
         obtain ⟨Nn, BO⟩ : ∃ j_ : Int, (shr .u64 (Go.bits .or .u64 (IntKind.u64.wrap ((IntKind.u64.wrap (CZ)) * 4294967296)) (IntKind.u64.wrap (Bp))) (Fj)) = j_ := ⟨_, rfl⟩
         replace H : (if 0 ≤ gF then (if gF < (jf.length : Int) then (bH.l0 k2 l0 ji5 yD (jf.set (gF : Int).toNat ((Nn) % 4294967296)) (rU.length : Int) (wrap64 (gF + 1))) else (none)) else (none)) = some (r1, r2) := by first | (rw [BO] at H; exact H) | (simp only [BO] at H ⊢; exact H)
         (try rw [BO] at A16)
         (try rw [BO] at A17)
         have ahW : ((Go.bits .or .u64 (IntKind.u64.wrap ((IntKind.u64.wrap (CZ)) * 4294967296)) (IntKind.u64.wrap (Bp))) / 2 ^ min (Fj).toNat 64) = Nn := BO; have ahX : (Fj) ≤ 64 → ((Go.bits .or .u64 (IntKind.u64.wrap ((IntKind.u64.wrap (CZ)) * 4294967296)) (IntKind.u64.wrap (Bp))) / 2 ^ (Fj).toNat) = Nn := Np BO
         by_cases c21 : 0 ≤ gF
         ·rw [if_pos c21] at H; have Ws : decide (0 ≤ gF) = true := decide_eq_true c21; clear c21
          by_cases c22 : gF < (jf.length : Int)
          ·rw [if_pos c22] at H; have K3 : decide (gF < (jf.length : Int)) = true := decide_eq_true c22
           (try (have Fp := K3; rw [yF] at Fp))
           clear c22
           obtain ⟨Yo, Fq⟩ : ∃ y_ : List Int, y_ = (jf.set (gF : Int).toNat ((Nn) % 4294967296)) := ⟨_, rfl⟩
           replace H : (bH.l0 k2 l0 ji5 yD Yo (rU.length : Int) (wrap64 (gF + 1))) = some (r1, r2) := by first | (rw [Fq]; with_reducible exact H) | (have H2_ := (Option.bind_some _ _).symm.trans H; rw [Fq]; with_reducible exact H2_) | (have H2_ := (Option.bind_some _ _).symm.trans H; with_reducible exact H2_) | with_reducible exact H | (rw [Fq]; exact H) | exact H
           have abT := af.mk Fq; clear Fq; have H' := af.mk H; clear H; go_wp2_with (first | ((with_reducible refine aZ (f := 59) rfl ?_); refine dG (some 41) rfl rfl Try.func59 (by kernel_rfl) rfl #[.slice A0 l0.length c0, .int .i64 (wrap64 ((wrap64 (gF + (wrap64 (Int.tdiv ji5 32)))) + 1))] rfl (by (try simp only [List.map_toArray, List.map_cons, List.map_nil]); first | done | (simp only [Ff]; rfl) | rfl | (simp only [List.length_drop, List.length_take]; rfl)) ?_; (with_reducible refine (bV.calls _ _ l0 (wrap64 ((wrap64 (gF + (wrap64 (Int.tdiv ji5 32)))) + 1)) CZ _ ?dQ ?fC A16.out).mono ?_); (case dQ => repeat (first | exact (Kd.bR HR0.out HB.out) | (with_reducible refine Kd.dB ?_ _) | (with_reducible refine Kd.dC ?_ _) | (with_reducible refine Kd.eD ?_))); (case fC => exact HC0.out); rintro e w' ⟨rfl, ⟨nd, rfl⟩⟩; refine ⟨_, rfl, ?_⟩; (try (rw [oZ wr]; generalize hq_ : World.drewN wr _ = wr; have n0_ : af (Kd.R (Kd.int .u32) 73 wr w.heap.size (fun k_ => (w.heap.size ≤ k_)) (.slice Nl jf.length IQ) jf) := ⟨by rw [← hq_]; exact (by (with_reducible repeat (first | apply Kd.aW | apply Kd.aX | apply Kd.bn)); exact gB.out)⟩; have n1_ : af (Below w.heap.size w wr) := ⟨by rw [← hq_]; exact (by repeat (first | (with_reducible first | exact HB.out | apply ai | apply ah | apply aj) | exact HB.out))⟩; clear gB HB hq_; have gB := n0_; have HB := n1_; clear n0_ n1_))) | ((with_reducible refine aZ (f := 59) rfl ?_); refine dG (some 46) rfl rfl Try.func59 (by kernel_rfl) rfl #[.slice A0 l0.length c0, .int .i64 (wrap64 (gF + (wrap64 (Int.tdiv ji5 32))))] rfl (by (try simp only [List.map_toArray, List.map_cons, List.map_nil]); first | done | (simp only [Ff]; rfl) | rfl | (simp only [List.length_drop, List.length_take]; rfl)) ?_; (with_reducible refine (bV.calls _ _ l0 (wrap64 (gF + (wrap64 (Int.tdiv ji5 32)))) Bp _ ?dQ ?fC A17.out).mono ?_); (case dQ => repeat (first | exact (Kd.bR HR0.out HB.out) | (with_reducible refine Kd.dB ?_ _) | (with_reducible refine Kd.dC ?_ _) | (with_reducible refine Kd.eD ?_))); (case fC => exact HC0.out); rintro e w' ⟨rfl, ⟨nd, rfl⟩⟩; refine ⟨_, rfl, ?_⟩; (try (rw [oZ wr]; generalize hq_ : World.drewN wr _ = wr; have n0_ : af (Kd.R (Kd.int .u32) 73 wr w.heap.size (fun k_ => (w.heap.size ≤ k_)) (.slice Nl jf.length IQ) jf) := ⟨by rw [← hq_]; exact (by (with_reducible repeat (first | apply Kd.aW | apply Kd.aX | apply Kd.bn)); exact gB.out)⟩; have n1_ : af (Below w.heap.size w wr) := ⟨by rw [← hq_]; exact (by repeat (first | (with_reducible first | exact HB.out | apply ai | apply ah | apply aj) | exact HB.out))⟩; clear gB HB hq_; have gB := n0_; have HB := n1_; clear n0_ n1_)); have p23 : 0 ≤ (gF : Int) := of_decide_eq_true (by first | (with_reducible assumption) | assumption); have q23 : (gF : Int) < ((jf.length : Int) : Int) := of_decide_eq_true (by first | (with_reducible assumption) | assumption); obtain ⟨Yp, Yq, Td, abU, ahY, alp, abV⟩ := Kd.kH gB.out (by omega); (first | cases Td | (injection Td with ea_ en_ ec_; (first | subst ea_ | (injection ea_ with ea_; subst ea_)); subst ec_; clear en_)); have ahZ := af.mk abU; have alq := af.mk abV; clear abU ahY abV; obtain ⟨ah0, ah1⟩ := Kd.gu 0 gB.out (gF : Int) p23 q23; replace p23 := eq_true p23; replace q23 := eq_true q23; obtain ⟨abW, abX⟩ := Kd.gu 0 gB.out (gF : Int) (of_decide_eq_true (by first | (with_reducible assumption) | assumption)) (of_decide_eq_true (by first | (with_reducible assumption) | assumption)); have IR := Kd.lH gB.out (gF : Int) ((Nn) % 4294967296)) | ((with_reducible refine gp (t := 73) (p := 56) rfl ?_); refine fT (t := 73) (p := 56) (v := ?Yr) (w1 := (wr.setCell ⟨Yp, (gF : Int).toNat, none⟩ (.int .u32 ((Nn) % 4294967296)))) ?hg ?ho ?hn ?hr ?_; (case ho => rfl); (case hg => rfl); (case hn => rfl); (case hr => first | (go_simp; done) | (go_simp; rfl)); intro w25 hw; have hg : wr.grownBy w25 (some Yp) := (by rw [hw]; exact IR.2); have hp_ : Kd.R (Kd.int .u32) 73 w25 w.heap.size (fun k_ => (w.heap.size ≤ k_)) (.slice (some ⟨Yp, 0, none⟩) jf.length IQ) Yo := (by rw [hw, abT.out]; exact IR.1); clear IR; have n0_ := af.mk (hp_); have n1_ := af.mk ((by rw [hw]; exact ay (HB.out) ahZ.out : Below w.heap.size w w25)); clear gB; clear HB; have gB := n0_; have HB := n1_; clear n0_ n1_; clear hg hw hp_))
           (try simp only [← yF])
           go_roundg k2
           case measure => have := HJ5.out; have := HK2.out; omega
           case rel => exact ⟨(Yo), (wrap64 (gF + 1)), (by first | rfl | (simp; done) | (simp [*]; done) | (simp; omega)), H', ⟨by have := HJ5.out; have := HK2.out; omega⟩, ⟨by (try simp only [yF]); (with_reducible repeat (first | apply Kd.aW | apply Kd.aX | apply Kd.bn)); exact gB.out⟩, ⟨by repeat (first | (with_reducible first | exact HB.out | apply ai | apply ah | apply aj) | exact HB.out)⟩⟩
          ·rw [if_neg c22] at H; exact absurd H (by simp)
         ·rw [if_neg c21] at H; exact absurd H (by simp)
        ·rw [if_neg c19] at H; exact absurd H (by simp)
       ·rw [if_neg c15] at H; have qA : decide (gF < (rU.length : Int)) = false := decide_eq_false c15
        (try (have qB := qA; rw [yF] at qB))
        clear c15; replace H := Option.bind_eq_some_iff.mp H; obtain ⟨Tc, abY, H⟩ := H; replace H : (some (Tc, yD)) = some (r1, r2) := H; have A26 := af.mk abY; clear abY; simp only [Option.some.injEq, Prod.mk.injEq] at H; obtain ⟨rfl, rfl⟩ := H; go_wp2_with (first | ((with_reducible refine aZ (f := 101) rfl ?_); refine dG (some 59) rfl rfl Try.func101 (by kernel_rfl) rfl #[.func (.func 58) #[] #[], .slice Nl jf.length IQ] rfl (by (try simp only [List.map_toArray, List.map_cons, List.map_nil]); first | done | rfl | (simp only [List.length_drop, List.length_take]; rfl)) ?_; (with_reducible refine (mX.calls k2 (fun k_ => some k_ = (.slice Nl jf.length IQ : Value).ownBlock) _ _ jf Tc _ ?dQ A26.out).mono ?_); (case dQ => exact Kd.R_V (Kd.kR rfl (gB.out))); rintro e w27 ⟨alr, rfl, ho0, hb⟩; refine ⟨_, rfl, ?_⟩; have n0_ := af.mk (Kd.dE (by (with_reducible repeat (first | apply Kd.aW | apply Kd.aX | apply Kd.bn)); exact gB.out) hb); have n1_ := af.mk (Kd.lU (Kd.iB (ok' := fun k_ => (w.heap.size ≤ k_)) ho0 (fun k_ hk_ => Or.elim hk_ (fun hs_ => ((gB.out).1 k_ hs_.symm)) (fun hn_ => (Nat.le_trans (az (by repeat (first | (with_reducible first | exact HB.out | apply ai | apply ah | apply aj) | exact HB.out))) hn_)))) (az (by repeat (first | (with_reducible first | exact HB.out | apply ai | apply ah | apply aj) | exact HB.out)))); have n2_ := af.mk (aA (by repeat (first | (with_reducible first | exact HB.out | apply ai | apply ah | apply aj) | exact HB.out)) hb); clear gB; clear HB; have gB := n0_; have abZ := n1_; have HB := n2_; clear n0_ n1_ n2_; (try clear hb); (try clear hb2); (try clear hk); (try clear hi); (try clear ho0))); go_ret2; exact ⟨_, by first | rfl | (simp [aD, aG] <;> rfl) | (simp only [← Nk, ← Ff]; first | rfl | (simp [aD, aG] <;> rfl)) | (simp [*, aD, aG] <;> rfl), by (with_reducible repeat (first | apply Kd.jg | apply Kd.jh | apply Kd.kz)); exact abZ.out, by repeat (first | (with_reducible first | exact HB.out | apply ai | apply ah | apply aj) | exact HB.out)⟩
    ·rw [if_neg c11] at H; exact absurd H (by simp)
   ·rw [if_neg c10] at H; exact absurd H (by simp)
def kS.f (k : Nat) (l0 : List Int) : Option (Int × Int) := (bZ.f k l0).bind fun xD => (if (xD.length : Int) > 2 then (some (0, 6)) else ((bV.f l0 1).bind fun C9 => ((bV.f l0 0).bind fun Bq => (some (Go.bits .or .u64 (IntKind.u64.wrap ((IntKind.u64.wrap (C9)) * 4294967296)) (IntKind.u64.wrap (Bq)), 0)))))
set_option maxHeartbeats 8000000 in
set_option maxRecDepth 100000 in
theorem kS.calls (k : Nat) (A0 : Option Addr) (c0 : Nat) (l0 : List Int) (r1 : Int) (r2 : Int) (w : World) (hr0 : Kd.C (Kd.int .u32) w A0 l0.length l0) (hc0 : l0.length ≤ c0) (h : kS.f k l0 = some (r1, r2)) :
 Calls Try.prog 28 #[.slice A0 l0.length c0] w fun e w' => e = .returned (.tuple #[.int .u64 r1, .int .i64 r2]) ∧ Below w.heap.size w w' := by
 have HR0 := af.mk hr0; have HC0 := af.mk hc0; clear hr0 hc0; have HB := af.mk (Below.refl w.heap.size w); have H : ((bZ.f k l0).bind fun xD => (if (xD.length : Int) > 2 then (some (0, 6)) else ((bV.f l0 1).bind fun C9 => ((bV.f l0 0).bind fun Bq => (some (Go.bits .or .u64 (IntKind.u64.wrap ((IntKind.u64.wrap (C9)) * 4294967296)) (IntKind.u64.wrap (Bq)), 0)))))) = some (r1, r2) := h; clear h; replace H := Option.bind_eq_some_iff.mp H; obtain ⟨xD, A20, H⟩ := H; replace H : (if (xD.length : Int) > 2 then (some (0, 6)) else ((bV.f l0 1).bind fun C9 => ((bV.f l0 0).bind fun Bq => (some (Go.bits .or .u64 (IntKind.u64.wrap ((IntKind.u64.wrap (C9)) * 4294967296)) (IntKind.u64.wrap (Bq)), 0))))) = some (r1, r2) := H; have A2 := af.mk A20; clear A20
 by_cases c3 : (xD.length : Int) > 2
 ·rw [if_pos c3] at H; have ky : decide (2 < (xD.length : Int)) = true := decide_eq_true c3; have nZ : decide (2 < xD.length) = true := decide_eq_true (by omega); clear c3; simp only [Option.some.injEq, Prod.mk.injEq] at H; obtain ⟨rfl, rfl⟩ := H
  go_enter Try.func28, Try.ntmps28
  go_wp2_with (first | ((with_reducible refine aZ (f := 58) rfl ?_); refine dG (some 5) rfl rfl Try.func58 (by kernel_rfl) rfl #[.slice A0 l0.length c0] rfl (by (try simp only [List.map_toArray, List.map_cons, List.map_nil]); first | done | rfl | (simp only [List.length_drop, List.length_take]; rfl)) ?_; (with_reducible refine (bZ.calls k (fun k_ => k_ < w.heap.size) _ _ l0 xD _ ?dQ A2.out).mono ?_); (case dQ => exact Kd.vQ HC0.out (Kd.lT (Kd.C_F (Kd.qC .u32) HR0.out) (by repeat (first | (with_reducible first | exact HB.out | apply ai | apply ah | apply aj) | exact HB.out)))); rintro e w4 ⟨ah2, rfl, ho0, hb⟩; refine ⟨_, rfl, ?_⟩; have n0_ := af.mk (Kd.lU (Kd.iB (ok' := fun k_ => True) ho0 (fun k_ hk_ => trivial)) (az (by repeat (first | (with_reducible first | exact HB.out | apply ai | apply ah | apply aj) | exact HB.out)))); have n1_ := af.mk (aA (by repeat (first | (with_reducible first | exact HB.out | apply ai | apply ah | apply aj) | exact HB.out)) hb); clear HB; have Ph := n0_; have HB := n1_; clear n0_ n1_; (try clear hb); (try clear hb2); (try clear hk); (try clear hi); (try clear ho0); obtain ⟨Ao5, co5, eo5⟩ := Kd.jv Ph.out; subst eo5)); go_ret2; exact ⟨by first | rfl | (simp [aD, aG] <;> rfl) | (simp [*, aD, aG] <;> rfl), by repeat (first | (with_reducible first | exact HB.out | apply ai | apply ah | apply aj) | exact HB.out)⟩
 ·rw [if_neg c3] at H; have ky : decide (2 < (xD.length : Int)) = false := decide_eq_false c3; have nZ : decide (2 < xD.length) = false := decide_eq_false (by omega); clear c3; replace H := Option.bind_eq_some_iff.mp H; obtain ⟨C9, A60, H⟩ := H; replace H : ((bV.f l0 0).bind fun Bq => (some (Go.bits .or .u64 (IntKind.u64.wrap ((IntKind.u64.wrap (C9)) * 4294967296)) (IntKind.u64.wrap (Bq)), 0))) = some (r1, r2) := H; have A6 := af.mk A60; clear A60; replace H := Option.bind_eq_some_iff.mp H; obtain ⟨Bq, A70, H⟩ := H; replace H : (some (Go.bits .or .u64 (IntKind.u64.wrap ((IntKind.u64.wrap (C9)) * 4294967296)) (IntKind.u64.wrap (Bq)), 0)) = some (r1, r2) := H; have A7 := af.mk A70; clear A70; simp only [Option.some.injEq, Prod.mk.injEq] at H; obtain ⟨rfl, rfl⟩ := H
  go_enter Try.func28, Try.ntmps28
  go_wp2_with (first | ((with_reducible refine aZ (f := 58) rfl ?_); refine dG (some 5) rfl rfl Try.func58 (by kernel_rfl) rfl #[.slice A0 l0.length c0] rfl (by (try simp only [List.map_toArray, List.map_cons, List.map_nil]); first | done | rfl | (simp only [List.length_drop, List.length_take]; rfl)) ?_; (with_reducible refine (bZ.calls k (fun k_ => k_ < w.heap.size) _ _ l0 xD _ ?dQ A2.out).mono ?_); (case dQ => exact Kd.vQ HC0.out (Kd.lT (Kd.C_F (Kd.qC .u32) HR0.out) (by repeat (first | (with_reducible first | exact HB.out | apply ai | apply ah | apply aj) | exact HB.out)))); rintro e w8 ⟨ah2, rfl, ho0, hb⟩; refine ⟨_, rfl, ?_⟩; have n0_ := af.mk (Kd.lU (Kd.iB (ok' := fun k_ => True) ho0 (fun k_ hk_ => trivial)) (az (by repeat (first | (with_reducible first | exact HB.out | apply ai | apply ah | apply aj) | exact HB.out)))); have n1_ := af.mk (aA (by repeat (first | (with_reducible first | exact HB.out | apply ai | apply ah | apply aj) | exact HB.out)) hb); clear HB; have Ph := n0_; have HB := n1_; clear n0_ n1_; (try clear hb); (try clear hb2); (try clear hk); (try clear hi); (try clear ho0); obtain ⟨Ao9, co9, eo9⟩ := Kd.jv Ph.out; subst eo9) | ((with_reducible refine aZ (f := 59) rfl ?_); refine dG (some 9) rfl rfl Try.func59 (by kernel_rfl) rfl #[.slice A0 l0.length c0, .int .i64 1] rfl (by (try simp only [List.map_toArray, List.map_cons, List.map_nil]); first | done | rfl | (simp only [List.length_drop, List.length_take]; rfl)) ?_; (with_reducible refine (bV.calls _ _ l0 1 C9 _ ?dQ ?fC A6.out).mono ?_); (case dQ => repeat (first | exact (Kd.bR HR0.out HB.out) | (with_reducible refine Kd.dB ?_ _) | (with_reducible refine Kd.dC ?_ _) | (with_reducible refine Kd.eD ?_))); (case fC => exact HC0.out); rintro e w' ⟨rfl, ⟨nd, rfl⟩⟩; refine ⟨_, rfl, ?_⟩) | ((with_reducible refine aZ (f := 59) rfl ?_); refine dG (some 13) rfl rfl Try.func59 (by kernel_rfl) rfl #[.slice A0 l0.length c0, .int .i64 0] rfl (by (try simp only [List.map_toArray, List.map_cons, List.map_nil]); first | done | rfl | (simp only [List.length_drop, List.length_take]; rfl)) ?_; (with_reducible refine (bV.calls _ _ l0 0 Bq _ ?dQ ?fC A7.out).mono ?_); (case dQ => repeat (first | exact (Kd.bR HR0.out (by repeat (first | (with_reducible first | exact HB.out | apply ai | apply ah | apply aj) | exact HB.out))) | (with_reducible refine Kd.dB ?_ _) | (with_reducible refine Kd.dC ?_ _) | (with_reducible refine Kd.eD ?_))); (case fC => exact HC0.out); rintro e w' ⟨rfl, ⟨nd, rfl⟩⟩; refine ⟨_, rfl, ?_⟩)); go_ret2; exact ⟨by first | rfl | (simp [aD, aG] <;> rfl) | (simp [*, aD, aG] <;> rfl), by repeat (first | (with_reducible first | exact HB.out | apply ai | apply ah | apply aj) | exact HB.out)⟩
mutual
def bL.j0 : Nat → List Int → Int → Int → Bool → Option (List Int × Int)
 | 0, _, _, _, _ => none
 | k + 1, x0, x1, x6, x16 => if x16 = true then (some (([] : List Int), 6)) else (if x6 = 0 then (some (([] : List Int), 0)) else (if 0 ≤ (wrap64 ((wrap64 (Int.tdiv (wrap64 (x6 + x1)) 32)) + 1)) then (if (wrap64 ((wrap64 (Int.tdiv (wrap64 (x6 + x1)) 32)) + 1) : Int).toNat ≤ 70368744177664 then ((some (List.replicate (wrap64 ((wrap64 (Int.tdiv (wrap64 (x6 + x1)) 32)) + 1) : Int).toNat 0 : List Int)).bind fun nH => (bL.l0 k x0 x1 nH (nH.length : Int) 0)) else (none)) else (none)))
def bL.l0 : Nat → List Int → Int → List Int → Int → Int → Option (List Int × Int)
 | 0, _, _, _, _, _ => none
 | k + 1, x0, x1, x7, x39, x40 => if x40 < x39 then ((bV.f x0 (wrap64 (x40 - (wrap64 (Int.tdiv x1 32))))).bind fun Da => ((bV.f x0 (wrap64 ((wrap64 (x40 - (wrap64 (Int.tdiv x1 32)))) - 1))).bind fun Br => (if 0 ≤ (Int.tmod x1 32) then (if 0 ≤ x40 then (if x40 < (x7.length : Int) then (bL.l0 k x0 x1 (x7.set (x40 : Int).toNat (((shl .u64 (Go.bits .or .u64 (IntKind.u64.wrap ((IntKind.u64.wrap (Da)) * 4294967296)) (IntKind.u64.wrap (Br))) (Int.tmod x1 32)) / 4294967296) % 4294967296)) x39 (wrap64 (x40 + 1))) else (none)) else (none)) else (none)))) else ((mX.f k x7).bind fun Te => (some (Te, 0)))
end
def bL.f (k : Nat) (l0 : List Int) (a1 : Int) : Option (List Int × Int) := (dV.f k l0).bind fun jm => (if a1 < 0 then (some (([] : List Int), 1)) else (if jm > 0 then (if jm > 16384 then (bL.j0 k l0 a1 jm true) else (bL.j0 k l0 a1 jm (decide (a1 > (wrap64 (16384 - jm)))))) else (bL.j0 k l0 a1 jm false)))
set_option maxHeartbeats 8000000 in
set_option maxRecDepth 100000 in
theorem bL.calls (k : Nat) (A0 : Option Addr) (c0 : Nat) (l0 : List Int) (a1 : Int) (r1 : List Int) (r2 : Int) (w : World) (hr0 : Kd.C (Kd.int .u32) w A0 l0.length l0) (hc0 : l0.length ≤ c0) (h : bL.f k l0 a1 = some (r1, r2)) :
 Calls Try.prog 93 #[.slice A0 l0.length c0, .int .i64 a1] w fun e w' => ∃ v0_ : Value, e = .returned (.tuple #[v0_, .int .i64 r2]) ∧ Kd.V (Kd.int .u32) 73 w' w.heap.size (fun k_ => (w.heap.size ≤ k_)) v0_ r1 ∧ Below w.heap.size w w' := by
 have HR0 := af.mk hr0; have HC0 := af.mk hc0; clear hr0 hc0; have HB := af.mk (Below.refl w.heap.size w); have H : ((dV.f k l0).bind fun jm => (if a1 < 0 then (some (([] : List Int), 1)) else (if jm > 0 then (if jm > 16384 then (bL.j0 k l0 a1 jm true) else (bL.j0 k l0 a1 jm (decide (a1 > (wrap64 (16384 - jm)))))) else (bL.j0 k l0 a1 jm false)))) = some (r1, r2) := h; clear h; replace H := Option.bind_eq_some_iff.mp H; obtain ⟨jm, A30, H⟩ := H; replace H : (if a1 < 0 then (some (([] : List Int), 1)) else (if jm > 0 then (if jm > 16384 then (bL.j0 k l0 a1 jm true) else (bL.j0 k l0 a1 jm (decide (a1 > (wrap64 (16384 - jm)))))) else (bL.j0 k l0 a1 jm false))) = some (r1, r2) := H; have A3 := af.mk A30; clear A30
 by_cases c4 : a1 < 0
 ·rw [if_pos c4] at H; have jR : decide (a1 < 0) = true := decide_eq_true c4; clear c4; simp only [Option.some.injEq, Prod.mk.injEq] at H; obtain ⟨rfl, rfl⟩ := H
  go_enter Try.func93, Try.ntmps93
  go_wp2_with (first | ((with_reducible refine aZ (f := 81) rfl ?_); refine dG (some 12) rfl rfl Try.func81 (by kernel_rfl) rfl #[.slice A0 l0.length c0] rfl (by (try simp only [List.map_toArray, List.map_cons, List.map_nil]); first | done | rfl | (simp only [List.length_drop, List.length_take]; rfl)) ?_; (with_reducible refine (dV.calls k _ _ l0 jm _ ?dQ ?fC A3.out).mono ?_); (case dQ => repeat (first | exact HR0.out | (with_reducible refine Kd.dB ?_ _) | (with_reducible refine Kd.dC ?_ _) | (with_reducible refine Kd.eD ?_))); (case fC => exact HC0.out); rintro e w5 ⟨rfl, hb⟩; refine ⟨_, rfl, ?_⟩; have n0_ := af.mk (aA (by repeat (first | (with_reducible first | exact HB.out | apply ai | apply ah | apply aj) | exact HB.out)) hb); clear HB; have HB := n0_; clear n0_; (try clear hb); (try clear hb2); (try clear hk); (try clear hi))); go_ret2; exact ⟨_, by first | rfl | (simp [aD, aG] <;> rfl) | (simp [*, aD, aG] <;> rfl), Kd.tY _ _ _ _ _, by repeat (first | (with_reducible first | exact HB.out | apply ai | apply ah | apply aj) | exact HB.out)⟩
 ·rw [if_neg c4] at H; have jR : decide (a1 < 0) = false := decide_eq_false c4; clear c4; have HC6 := af.mk H; clear H
  go_enter Try.func93, Try.ntmps93
  go_upto_region 4 with (first | ((with_reducible refine aZ (f := 81) rfl ?_); refine dG (some 12) rfl rfl Try.func81 (by kernel_rfl) rfl #[.slice A0 l0.length c0] rfl (by (try simp only [List.map_toArray, List.map_cons, List.map_nil]); first | done | rfl | (simp only [List.length_drop, List.length_take]; rfl)) ?_; (with_reducible refine (dV.calls k _ _ l0 jm _ ?dQ ?fC A3.out).mono ?_); (case dQ => repeat (first | exact HR0.out | (with_reducible refine Kd.dB ?_ _) | (with_reducible refine Kd.dC ?_ _) | (with_reducible refine Kd.eD ?_))); (case fC => exact HC0.out); rintro e w7 ⟨rfl, hb⟩; refine ⟨_, rfl, ?_⟩; have n0_ := af.mk (aA (by repeat (first | (with_reducible first | exact HB.out | apply ai | apply ah | apply aj) | exact HB.out)) hb); clear HB; have HB := n0_; clear n0_; (try clear hb); (try clear hb2); (try clear hk); (try clear hi)))
  (try simp only [Act.put, List.setIfInBounds_toArray, List.set_cons_zero, List.set_cons_succ])
  go_cut [16] (fun v16 wc => ∃ (kq : Nat) (K4 : Bool), v16 = .bool K4 ∧ af (bL.j0 kq l0 a1 jm K4 = some (r1, r2)) ∧ af (kq ≤ k) ∧ af (Below w.heap.size w wc))
  case first =>
   have H := HC6.out; clear HC6
   by_cases c8 : jm > 0
   ·rw [if_pos c8] at H; have kQ : decide (0 < jm) = true := decide_eq_true c8; clear c8
    (first | rw [kQ] | (simp only [aU, aV]; rw [kQ]) | skip)
    by_cases c9 : jm > 16384
    ·rw [if_pos c9] at H; have oO : decide (16384 < jm) = true := decide_eq_true c9; clear c9; have H' := af.mk H; clear H; go_wp2
     go_meet
     case rel => exact ⟨_, (true), (by first | rfl | (simp; done) | (simp [*]; done) | (simp; omega)), H', ⟨by first | omega | exact Nat.le_refl _⟩, ⟨by repeat (first | (with_reducible first | exact HB.out | apply ai | apply ah | apply aj) | exact HB.out)⟩⟩
    ·rw [if_neg c9] at H; have oO : decide (16384 < jm) = false := decide_eq_false c9; clear c9; have H' := af.mk H; clear H; go_wp2
     go_meet
     case rel => exact ⟨_, (decide (a1 > (wrap64 (16384 - jm)))), (by first | rfl | (simp; done) | (simp [*]; done) | (simp; omega)), H', ⟨by first | omega | exact Nat.le_refl _⟩, ⟨by repeat (first | (with_reducible first | exact HB.out | apply ai | apply ah | apply aj) | exact HB.out)⟩⟩
   ·rw [if_neg c8] at H; have kQ : decide (0 < jm) = false := decide_eq_false c8; clear c8
    (first | rw [kQ] | (simp only [aU, aV]; rw [kQ]) | skip)
    have H' := af.mk H; clear H; go_wp2
    go_meet
    case rel => exact ⟨_, (false), (by first | rfl | (simp; done) | (simp [*]; done) | (simp; omega)), H', ⟨by first | omega | exact Nat.le_refl _⟩, ⟨by repeat (first | (with_reducible first | exact HB.out | apply ai | apply ah | apply aj) | exact HB.out)⟩⟩
  case rest =>
   clear HC6
   try clear p2
   try clear c4
   try clear jR
   try clear p6
   try clear c8
   try clear kQ
   try clear c9
   try clear oO
   obtain ⟨kq, K4, rfl, HA, HJ5, HB⟩ := hcut
   cases kq with
   | zero => exact absurd HA.out (by simp [bL.j0])
   | succ kj5 =>
    have H := HA.out; clear HA; simp only [bL.j0] at H
    by_cases c10 : K4 = true
    ·subst c10
     have H1 : (some (([] : List Int), 6)) = some (r1, r2) := by rw [if_pos rfl] at H; exact H
     clear H; have H := H1; clear H1; simp only [Option.some.injEq, Prod.mk.injEq] at H; obtain ⟨rfl, rfl⟩ := H; go_wp2; go_ret2; exact ⟨_, by first | rfl | (simp [aD, aG] <;> rfl) | (simp [*, aD, aG] <;> rfl), Kd.tY _ _ _ _ _, by repeat (first | (with_reducible first | exact HB.out | apply ai | apply ah | apply aj) | exact HB.out)⟩
    ·replace c10 := Bool.eq_false_iff.mpr c10; subst c10
     have H1 : (if jm = 0 then (some (([] : List Int), 0)) else (if 0 ≤ (wrap64 ((wrap64 (Int.tdiv (wrap64 (jm + a1)) 32)) + 1)) then (if (wrap64 ((wrap64 (Int.tdiv (wrap64 (jm + a1)) 32)) + 1) : Int).toNat ≤ 70368744177664 then ((some (List.replicate (wrap64 ((wrap64 (Int.tdiv (wrap64 (jm + a1)) 32)) + 1) : Int).toNat 0 : List Int)).bind fun nH => (bL.l0 kj5 l0 a1 nH (nH.length : Int) 0)) else (none)) else (none))) = some (r1, r2) := by rw [if_neg (show ¬ (false = true) by decide)] at H; exact H
     clear H; have H := H1; clear H1
     by_cases c11 : jm = 0
     ·rw [if_pos c11] at H; have kK : (jm == 0) = true := beq_iff_eq.mpr c11; have wZ : (jm != 0) = false := bne_eq_false_iff_eq.mpr c11; clear c11; simp only [Option.some.injEq, Prod.mk.injEq] at H; obtain ⟨rfl, rfl⟩ := H; go_wp2; go_ret2; exact ⟨_, by first | rfl | (simp [aD, aG] <;> rfl) | (simp [*, aD, aG] <;> rfl), Kd.tY _ _ _ _ _, by repeat (first | (with_reducible first | exact HB.out | apply ai | apply ah | apply aj) | exact HB.out)⟩
     ·rw [if_neg c11] at H; have kK : (jm == 0) = false := beq_eq_false_iff_ne.mpr c11; have wZ : (jm != 0) = true := bne_iff_ne.mpr c11
      obtain ⟨yG, K5⟩ : ∃ j_ : Int, (wrap64 ((wrap64 (Int.tdiv (wrap64 (jm + a1)) 32)) + 1)) = j_ := ⟨_, rfl⟩
      replace H : (if 0 ≤ (yG) then (if (yG : Int).toNat ≤ 70368744177664 then ((some (List.replicate (yG : Int).toNat 0 : List Int)).bind fun nH => (bL.l0 kj5 l0 a1 nH (nH.length : Int) 0)) else (none)) else (none)) = some (r1, r2) := by first | (rw [K5] at H; exact H) | (simp only [K5] at H ⊢; exact H)
      have ah3 : (IntKind.i64.wrap ((wrap64 (Int.tdiv (wrap64 (jm + a1)) 32)) + 1)) = yG := (aU _).trans K5
      by_cases c13 : 0 ≤ (yG)
      ·rw [if_pos c13] at H; have yH := eq_true c13; have ab0 : decide (0 ≤ (yG)) = true := decide_eq_true c13; clear c13
       by_cases c14 : (yG : Int).toNat ≤ 70368744177664
       ·rw [if_pos c14] at H; have BP := eq_true c14; have ab1 : decide ((yG : Int).toNat ≤ 70368744177664) = true := decide_eq_true c14; clear c14
        obtain ⟨nH, Fs⟩ : ∃ y_ : List Int, y_ = (List.replicate (yG : Int).toNat 0) := ⟨_, rfl⟩
        replace H : (bL.l0 kj5 l0 a1 nH (nH.length : Int) 0) = some (r1, r2) := by first | (rw [Fs]; with_reducible exact H) | (have H2_ := (Option.bind_some _ _).symm.trans H; rw [Fs]; with_reducible exact H2_) | (have H2_ := (Option.bind_some _ _).symm.trans H; with_reducible exact H2_) | with_reducible exact H | (rw [Fs]; exact H) | exact H
        have Wt := af.mk Fs; clear Fs; have H' := af.mk H; clear H; go_wp2_with (first | ((with_reducible refine bS (N := 37) rfl ?_); refine Kd.oM (Kd.int .u32) _ 73 rfl (N := 37) rfl 67 _ _ rfl yG rfl rfl Try.underlying67 (.int .u32 0) 4 yE rfl (by decide) (by omega) 0 (ok := fun _ => True) (okp := fun _ => True) rfl (fun _ hk => hk) trivial (of_decide_eq_true (by first | (with_reducible assumption) | assumption)) (Nat.le_trans (Nat.mul_le_mul_right _ (of_decide_eq_true (by first | (with_reducible assumption) | assumption) : yG.toNat ≤ 70368744177664)) (by omega)) (Below.refl _ _) (Nat.le_refl _) ?_; intro als w15 Pi hb hg_ hnew_; clear hg_ hnew_; (first | rw [← Wt.out] at Pi | (simp only [Int.reduceToNat] at Pi; rw [← Wt.out] at Pi)); have n0_ := af.mk (Kd.fA (Kd.CY (M := fun k_ => (w.heap.size ≤ k_)) Pi (az (by repeat (first | (with_reducible first | exact HB.out | apply ai | apply ah | apply aj) | exact HB.out))) (fun k_ h_ => h_)) (az (by repeat (first | (with_reducible first | exact HB.out | apply ai | apply ah | apply aj) | exact HB.out)))); have n1_ := af.mk (aA (by repeat (first | (with_reducible first | exact HB.out | apply ai | apply ah | apply aj) | exact HB.out)) hb); clear HB; have Wu := n0_; have HB := n1_; clear n0_ n1_; clear hb Pi; obtain ⟨E5, yA, Bo⟩ := Kd.bQ Wu.out; subst Bo))
        go_loopg [40] kj5 (fun kq v40 w' => ∃ (iE : List Int) (gG : Int), v40 = .int .i64 gG ∧ af (bL.l0 kq l0 a1 iE (nH.length : Int) gG = some (r1, r2)) ∧ af (kq ≤ kj5) ∧ af (Kd.R (Kd.int .u32) 73 w' w.heap.size (fun k_ => (w.heap.size ≤ k_)) (.slice E5 nH.length yA) iE) ∧ af (Below w.heap.size w w'))
        case atStart => exact ⟨(nH), (0), (by first | rfl | (simp; done) | (simp [*]; done) | (simp; omega)), H', ⟨Nat.le_refl _⟩, ⟨by (with_reducible repeat (first | apply Kd.aW | apply Kd.aX | apply Kd.bn)); exact Kd.eG Wu.out (fun _ hk => hk.1)⟩, ⟨by repeat (first | (with_reducible first | exact HB.out | apply ai | apply ah | apply aj) | exact HB.out)⟩⟩
        case round =>
         clear H'
         try clear c1
         try clear p2
         try clear c4
         try clear jR
         try clear p6
         try clear c8
         try clear kQ
         try clear c9
         try clear oO
         try clear c10
         try clear c11
         try clear kK
         try clear wZ
         try clear c13
         try clear yH
         try clear ab0
         try clear c14
         try clear BP
         try clear ab1
         try clear p2
         try clear p6
         obtain ⟨iE, gG, rfl, HA, HK2, il, HB⟩ := hrel; have yI := (Kd.bY il.out).1; rw [yI] at il
         (try simp only [yI])
         cases gk with
         | zero => exact absurd HA.out (by simp [bL.l0])
         | succ k2 =>
          have H := HA.out; clear HA; simp only [bL.l0] at H
          by_cases c18 : gG < (nH.length : Int)
          ·rw [if_pos c18] at H; have yJ : decide (gG < (nH.length : Int)) = true := decide_eq_true c18
           (try (have qD := yJ; rw [yI] at qD))
           clear c18; replace H := Option.bind_eq_some_iff.mp H; obtain ⟨Da, Pj, H⟩ := H; replace H : ((bV.f l0 (wrap64 ((wrap64 (gG - (wrap64 (Int.tdiv a1 32)))) - 1))).bind fun Br => (if 0 ≤ (Int.tmod a1 32) then (if 0 ≤ gG then (if gG < (iE.length : Int) then (bL.l0 k2 l0 a1 (iE.set (gG : Int).toNat (((shl .u64 (Go.bits .or .u64 (IntKind.u64.wrap ((IntKind.u64.wrap (Da)) * 4294967296)) (IntKind.u64.wrap (Br))) (Int.tmod a1 32)) / 4294967296) % 4294967296)) (nH.length : Int) (wrap64 (gG + 1))) else (none)) else (none)) else (none))) = some (r1, r2) := H; have A19 := af.mk Pj; clear Pj; replace H := Option.bind_eq_some_iff.mp H; obtain ⟨Br, ab2, H⟩ := H; replace H : (if 0 ≤ (Int.tmod a1 32) then (if 0 ≤ gG then (if gG < (iE.length : Int) then (bL.l0 k2 l0 a1 (iE.set (gG : Int).toNat (((shl .u64 (Go.bits .or .u64 (IntKind.u64.wrap ((IntKind.u64.wrap (Da)) * 4294967296)) (IntKind.u64.wrap (Br))) (Int.tmod a1 32)) / 4294967296) % 4294967296)) (nH.length : Int) (wrap64 (gG + 1))) else (none)) else (none)) else (none)) = some (r1, r2) := H; have A20 := af.mk ab2; clear ab2
           obtain ⟨yK, tZ⟩ : ∃ j_ : Int, (Int.tmod a1 32) = j_ := ⟨_, rfl⟩
           replace H : (if 0 ≤ (yK) then (if 0 ≤ gG then (if gG < (iE.length : Int) then (bL.l0 k2 l0 a1 (iE.set (gG : Int).toNat (((shl .u64 (Go.bits .or .u64 (IntKind.u64.wrap ((IntKind.u64.wrap (Da)) * 4294967296)) (IntKind.u64.wrap (Br))) (yK)) / 4294967296) % 4294967296)) (nH.length : Int) (wrap64 (gG + 1))) else (none)) else (none)) else (none)) = some (r1, r2) := by first | (rw [tZ] at H; exact H) | (simp only [tZ] at H ⊢; exact H)
           (try rw [tZ] at A19)
           (try rw [tZ] at A20)
           by_cases c22 : 0 ≤ (yK)
           ·rw [if_pos c22] at H; have K3 := eq_true c22; have akh : decide (0 ≤ (yK)) = true := decide_eq_true c22; clear c22
            obtain ⟨Nq, BQ⟩ : ∃ j_ : Int, (shl .u64 (Go.bits .or .u64 (IntKind.u64.wrap ((IntKind.u64.wrap (Da)) * 4294967296)) (IntKind.u64.wrap (Br))) (yK)) = j_ := ⟨_, rfl⟩
            replace H : (if 0 ≤ gG then (if gG < (iE.length : Int) then (bL.l0 k2 l0 a1 (iE.set (gG : Int).toNat (((Nq) / 4294967296) % 4294967296)) (nH.length : Int) (wrap64 (gG + 1))) else (none)) else (none)) = some (r1, r2) := by first | (rw [BQ] at H; exact H) | (simp only [BQ] at H ⊢; exact H)
            (try rw [BQ] at A19)
            (try rw [BQ] at A20)
            have ah4 : (IntKind.u64.wrap ((Go.bits .or .u64 (IntKind.u64.wrap ((IntKind.u64.wrap (Da)) * 4294967296)) (IntKind.u64.wrap (Br))) * 2 ^ min (yK).toNat 64)) = Nq := BQ; have ah5 : (yK) ≤ 64 → (IntKind.u64.wrap ((Go.bits .or .u64 (IntKind.u64.wrap ((IntKind.u64.wrap (Da)) * 4294967296)) (IntKind.u64.wrap (Br))) * 2 ^ (yK).toNat)) = Nq := Nr BQ
            by_cases c24 : 0 ≤ gG
            ·rw [if_pos c24] at H; have Wv : decide (0 ≤ gG) = true := decide_eq_true c24; clear c24
             by_cases c25 : gG < (iE.length : Int)
             ·rw [if_pos c25] at H; have Ww : decide (gG < (iE.length : Int)) = true := decide_eq_true c25
              (try (have Fu := Ww; rw [yI] at Fu))
              clear c25
              obtain ⟨Yt, Fv⟩ : ∃ y_ : List Int, y_ = (iE.set (gG : Int).toNat (((Nq) / 4294967296) % 4294967296)) := ⟨_, rfl⟩
              replace H : (bL.l0 k2 l0 a1 Yt (nH.length : Int) (wrap64 (gG + 1))) = some (r1, r2) := by first | (rw [Fv]; with_reducible exact H) | (have H2_ := (Option.bind_some _ _).symm.trans H; rw [Fv]; with_reducible exact H2_) | (have H2_ := (Option.bind_some _ _).symm.trans H; with_reducible exact H2_) | with_reducible exact H | (rw [Fv]; exact H) | exact H
              have ab3 := af.mk Fv; clear Fv; have H' := af.mk H; clear H; go_wp2_with (first | ((with_reducible refine aZ (f := 59) rfl ?_); refine dG (some 49) rfl rfl Try.func59 (by kernel_rfl) rfl #[.slice A0 l0.length c0, .int .i64 (wrap64 (gG - (wrap64 (Int.tdiv a1 32))))] rfl (by (try simp only [List.map_toArray, List.map_cons, List.map_nil]); first | done | rfl | (simp only [List.length_drop, List.length_take]; rfl)) ?_; (with_reducible refine (bV.calls _ _ l0 (wrap64 (gG - (wrap64 (Int.tdiv a1 32)))) Da _ ?dQ ?fC A19.out).mono ?_); (case dQ => repeat (first | exact (Kd.bR HR0.out HB.out) | (with_reducible refine Kd.dB ?_ _) | (with_reducible refine Kd.dC ?_ _) | (with_reducible refine Kd.eD ?_))); (case fC => exact HC0.out); rintro e w' ⟨rfl, ⟨nd, rfl⟩⟩; refine ⟨_, rfl, ?_⟩; (try (rw [oZ wr]; generalize hq_ : World.drewN wr _ = wr; have n0_ : af (Kd.R (Kd.int .u32) 73 wr w.heap.size (fun k_ => (w.heap.size ≤ k_)) (.slice E5 iE.length yA) iE) := ⟨by rw [← hq_]; exact (by (with_reducible repeat (first | apply Kd.aW | apply Kd.aX | apply Kd.bn)); exact il.out)⟩; have n1_ : af (Below w.heap.size w wr) := ⟨by rw [← hq_]; exact (by repeat (first | (with_reducible first | exact HB.out | apply ai | apply ah | apply aj) | exact HB.out))⟩; clear il HB hq_; have il := n0_; have HB := n1_; clear n0_ n1_))) | ((with_reducible refine aZ (f := 59) rfl ?_); refine dG (some 55) rfl rfl Try.func59 (by kernel_rfl) rfl #[.slice A0 l0.length c0, .int .i64 (wrap64 ((wrap64 (gG - (wrap64 (Int.tdiv a1 32)))) - 1))] rfl (by (try simp only [List.map_toArray, List.map_cons, List.map_nil]); first | done | rfl | (simp only [List.length_drop, List.length_take]; rfl)) ?_; (with_reducible refine (bV.calls _ _ l0 (wrap64 ((wrap64 (gG - (wrap64 (Int.tdiv a1 32)))) - 1)) Br _ ?dQ ?fC A20.out).mono ?_); (case dQ => repeat (first | exact (Kd.bR HR0.out HB.out) | (with_reducible refine Kd.dB ?_ _) | (with_reducible refine Kd.dC ?_ _) | (with_reducible refine Kd.eD ?_))); (case fC => exact HC0.out); rintro e w' ⟨rfl, ⟨nd, rfl⟩⟩; refine ⟨_, rfl, ?_⟩; (try (rw [oZ wr]; generalize hq_ : World.drewN wr _ = wr; have n0_ : af (Kd.R (Kd.int .u32) 73 wr w.heap.size (fun k_ => (w.heap.size ≤ k_)) (.slice E5 iE.length yA) iE) := ⟨by rw [← hq_]; exact (by (with_reducible repeat (first | apply Kd.aW | apply Kd.aX | apply Kd.bn)); exact il.out)⟩; have n1_ : af (Below w.heap.size w wr) := ⟨by rw [← hq_]; exact (by repeat (first | (with_reducible first | exact HB.out | apply ai | apply ah | apply aj) | exact HB.out))⟩; clear il HB hq_; have il := n0_; have HB := n1_; clear n0_ n1_)); have p26 : 0 ≤ (gG : Int) := of_decide_eq_true (by first | (with_reducible assumption) | assumption); have q26 : (gG : Int) < ((iE.length : Int) : Int) := of_decide_eq_true (by first | (with_reducible assumption) | assumption); obtain ⟨Yu, ah6, Tf, ab4, ah7, alu, ab5⟩ := Kd.kH il.out (by omega); (first | cases Tf | (injection Tf with ea_ en_ ec_; (first | subst ea_ | (injection ea_ with ea_; subst ea_)); subst ec_; clear en_)); have ah8 := af.mk ab4; have alv := af.mk ab5; clear ab4 ah7 ab5; obtain ⟨ah9, aia⟩ := Kd.gu 0 il.out (gG : Int) p26 q26; replace p26 := eq_true p26; replace q26 := eq_true q26; obtain ⟨aki, akj⟩ := Kd.gu 0 il.out (gG : Int) (of_decide_eq_true (by first | (with_reducible assumption) | assumption)) (of_decide_eq_true (by first | (with_reducible assumption) | assumption)); have Yv := Kd.lH il.out (gG : Int) (((Nq) / 4294967296) % 4294967296)) | ((with_reducible refine gp (t := 73) (p := 66) rfl ?_); refine fT (t := 73) (p := 66) (v := ?aib) (w1 := (wr.setCell ⟨Yu, (gG : Int).toNat, none⟩ (.int .u32 (((Nq) / 4294967296) % 4294967296)))) ?hg ?ho ?hn ?hr ?_; (case ho => rfl); (case hg => rfl); (case hn => rfl); (case hr => first | (go_simp; done) | (go_simp; rfl)); intro w28 hw; have hg : wr.grownBy w28 (some Yu) := (by rw [hw]; exact Yv.2); have hp_ : Kd.R (Kd.int .u32) 73 w28 w.heap.size (fun k_ => (w.heap.size ≤ k_)) (.slice (some ⟨Yu, 0, none⟩) iE.length yA) Yt := (by rw [hw, ab3.out]; exact Yv.1); clear Yv; have n0_ := af.mk (hp_); have n1_ := af.mk ((by rw [hw]; exact ay (HB.out) ah8.out : Below w.heap.size w w28)); clear il; clear HB; have il := n0_; have HB := n1_; clear n0_ n1_; clear hg hw hp_))
              (try simp only [← yI])
              go_roundg k2
              case measure => have := HJ5.out; have := HK2.out; omega
              case rel => exact ⟨(Yt), (wrap64 (gG + 1)), (by first | rfl | (simp; done) | (simp [*]; done) | (simp; omega)), H', ⟨by have := HJ5.out; have := HK2.out; omega⟩, ⟨by (try simp only [yI]); (with_reducible repeat (first | apply Kd.aW | apply Kd.aX | apply Kd.bn)); exact il.out⟩, ⟨by repeat (first | (with_reducible first | exact HB.out | apply ai | apply ah | apply aj) | exact HB.out)⟩⟩
             ·rw [if_neg c25] at H; exact absurd H (by simp)
            ·rw [if_neg c24] at H; exact absurd H (by simp)
           ·rw [if_neg c22] at H; exact absurd H (by simp)
          ·rw [if_neg c18] at H; have yJ : decide (gG < (nH.length : Int)) = false := decide_eq_false c18
           (try (have qD := yJ; rw [yI] at qD))
           clear c18; replace H := Option.bind_eq_some_iff.mp H; obtain ⟨Te, Pm, H⟩ := H; replace H : (some (Te, 0)) = some (r1, r2) := H; have A29 := af.mk Pm; clear Pm; simp only [Option.some.injEq, Prod.mk.injEq] at H; obtain ⟨rfl, rfl⟩ := H; go_wp2_with (first | ((with_reducible refine aZ (f := 101) rfl ?_); refine dG (some 69) rfl rfl Try.func101 (by kernel_rfl) rfl #[.func (.func 58) #[] #[], .slice E5 iE.length yA] rfl (by (try simp only [List.map_toArray, List.map_cons, List.map_nil]); first | done | rfl | (simp only [List.length_drop, List.length_take]; rfl)) ?_; (with_reducible refine (mX.calls k2 (fun k_ => some k_ = (.slice E5 iE.length yA : Value).ownBlock) _ _ iE Te _ ?dQ A29.out).mono ?_); (case dQ => exact Kd.R_V (Kd.kR rfl (il.out))); rintro e w30 ⟨alx, rfl, ho0, hb⟩; refine ⟨_, rfl, ?_⟩; have n0_ := af.mk (Kd.dE (by (with_reducible repeat (first | apply Kd.aW | apply Kd.aX | apply Kd.bn)); exact il.out) hb); have n1_ := af.mk (Kd.lU (Kd.iB (ok' := fun k_ => (w.heap.size ≤ k_)) ho0 (fun k_ hk_ => Or.elim hk_ (fun hs_ => ((il.out).1 k_ hs_.symm)) (fun hn_ => (Nat.le_trans (az (by repeat (first | (with_reducible first | exact HB.out | apply ai | apply ah | apply aj) | exact HB.out))) hn_)))) (az (by repeat (first | (with_reducible first | exact HB.out | apply ai | apply ah | apply aj) | exact HB.out)))); have n2_ := af.mk (aA (by repeat (first | (with_reducible first | exact HB.out | apply ai | apply ah | apply aj) | exact HB.out)) hb); clear il; clear HB; have il := n0_; have ab6 := n1_; have HB := n2_; clear n0_ n1_ n2_; (try clear hb); (try clear hb2); (try clear hk); (try clear hi); (try clear ho0))); go_ret2; exact ⟨_, by first | rfl | (simp [aD, aG] <;> rfl) | (simp only [← K5]; first | rfl | (simp [aD, aG] <;> rfl)) | (simp [*, aD, aG] <;> rfl), by (with_reducible repeat (first | apply Kd.jg | apply Kd.jh | apply Kd.kz)); exact ab6.out, by repeat (first | (with_reducible first | exact HB.out | apply ai | apply ah | apply aj) | exact HB.out)⟩
       ·rw [if_neg c14] at H; exact absurd H (by simp)
      ·rw [if_neg c13] at H; exact absurd H (by simp)
def cu.f (a0 : Int) : Option (Bool) := some (a0 != a0)
set_option maxHeartbeats 8000000 in
set_option maxRecDepth 100000 in
theorem cu.calls (a0 : Int) (r : Bool) (w : World) (h : cu.f a0 = some r) :
 Calls Try.prog 102 #[.int .u32 a0] w fun e w' => e = .returned (.bool r) ∧ bF w w' := by
 have H : (some (a0 != a0)) = some r := h; clear h; obtain rfl := Option.some.inj H
 go_enter Try.func102, Try.ntmps102
 go_wp2; go_ret; exact ⟨by first | rfl | (simp; done) | (simp [*]; done), by repeat (first | exact bF.refl _ | apply bF.step)⟩
end Go.Proofs.Ytkgeihbcikiedaa.P
