/- The contract of reference 7's Eval (and, where they lie here, of Formed and Fast), for all nets of fewer than a million nodes that stand behind those they use. -/
import Derived.Test.YtkgeihbcikiedaaS67
import Derived.Test.YtkgeihbcikiedaaPx3
import Derived.Deep.QuietTactic
import Derived.BigQuiet
import Derived.StillTailTactics
import Derived.Test.YtkgeihbcikiedaaPx0
import Derived.Test.YtkgeihbcikiedaaPx2
import Derived.Test.YtkgeihbcikiedaaPx10
set_option linter.unusedVariables false
set_option linter.unusedSimpArgs false
set_option linter.constructorNameAsVariable false
set_option linter.unusedSectionVars false
namespace Go.Proofs.Ytkgeihbcikiedaa.P
open Go.RowKit Go.Proofs.Ytkgeihbcikiedaa.N Go.Proofs.YtkgeihbcikiedaaW.PrintWords Go.Proofs.YtkgeihbcikiedaaW.PrintLast Go.Proofs.YtkgeihbcikiedaaW.PrintMore
attribute [local go_sem] dM dN eu eB dx dz dO dP
def adK : List Nat := [0, 0, 2, 7, 0, 16, 63, 127]
noncomputable def Xc : Bool × List (List Nat × List Nat) := gp .any (opsOf Try.f72 6)
theorem Vl : gp .any (opsOf Try.f72 6) = Xc := rfl
theorem QK : fZ Xc.2 adK = true := by kernel_rfl
theorem Le {k : Nat} (h : k < 1000000000) : Value.int .i64 (wrap64 ((k : Int) + 1)) = .int .i64 ((k + 1 : Nat) : Int) := by rw [qV h]
theorem Lf {n k : Nat} (h : k < n) (hn : n < 1000000000) : n - (intOf (.int .i64 (wrap64 ((k : Int) + 1)))).toNat < n - (intOf (.int .i64 (k : Int))).toNat := by
 rw [qV (by omega)]; simp only [intOf, Int.toNat_natCast]; omega
theorem DV {v : List Bool} {i : Nat} {g : S92} {b : Bool} (h : Gt v i g b) {n : Nat} (hn : i < n) (w : World) : Calls Try.prog 86 #[.agg #[.int .i64 g.f0, .int .i64 g.f1, .int .i64 g.f2, .int .i64 g.f3], .int .i64 (n : Int)] w fun e w' => e = .returned (.bool true) ∧ Below w.heap.size w w' := by
 obtain ⟨K, hK⟩ := MU h hn; exact bu.calls K _ _ _ _ _ _ w (hK K (Nat.le_refl _))
set_option maxHeartbeats 8000000 in
set_option maxRecDepth 100000 in
theorem DW {nodes : List S92} {v : List Bool} {ins outs : List S94} (hn : Nt nodes v) (hl : nodes.length < 1000000) (hi : ∀ p ∈ ins ++ outs, sj nodes.length p) (hli : (ins ++ outs).length < 1000000)
 (A0 : Option Addr) (c0 : Nat) (A1 : Option Addr) (c1 : Nat) (A2 : Option Addr) (c2 : Nat) (w : World) (hr0 : Kd.C k92 w A0 nodes.length nodes) (hc0 : nodes.length ≤ c0) (hr1 : Kd.C k94 w A1 ins.length ins) (hc1 : ins.length ≤ c1) (hr2 : Kd.C k94 w A2 outs.length outs) (hc2 : outs.length ≤ c2) :
 Calls Try.prog 72 #[.agg #[.slice A0 nodes.length c0, .slice A1 ins.length c1, .slice A2 outs.length c2]] w fun e w' => e = .returned (.bool true) ∧ Below w.heap.size w w' := by
 have BB := Try.underlying55; have MI := Try.underlying92; have HR0 := af.mk hr0; have HR1 := af.mk hr1; have HR2 := af.mk hr2; have HC := af.mk (show nodes.length ≤ c0 ∧ ins.length ≤ c1 ∧ outs.length ≤ c2 from ⟨hc0, hc1, hc2⟩); have HN := af.mk hn; have HL := af.mk (show nodes.length < 1000000 ∧ (ins ++ outs).length < 1000000 from ⟨hl, hli⟩); have HI := af.mk hi; clear hr0 hr1 hr2 hc0 hc1 hc2 hn hl hi hli
 go_enter Try.func72, Try.ntmps72
 go_wp2_with (first | ((with_reducible refine bQ (N := 1) rfl ?_); (try (refine sZ (by rfl) ?_; dsimp only)); refine di ?hg (N := 1) ?hd (cs := #[.slice A0 nodes.length c0, .slice A1 ins.length c1, .slice A2 outs.length c2]) (t := 55) ?hr ?_; (case hd => rfl); (case hg => rfl); (case hr => first | (go_simp; done) | (go_simp; rfl)); intro gb hg w2 hbox hb; have HBX := af.mk hbox; have HB := af.mk (az (Below.refl _ _) hb); clear hg hbox hb))
 go_loopw [3] (fun x wr => ∃ k : Nat, k ≤ nodes.length ∧ x = .int .i64 (k : Int) ∧ af (wr.heap[gb]? = some (.cells #[.slice A0 nodes.length c0, .slice A1 ins.length c1, .slice A2 outs.length c2] 55 (0, 0))) ∧ af (Below w.heap.size w wr))
  (fun x _ => nodes.length - (intOf x).toNat)
 case atStart => exact ⟨0, Nat.zero_le _, rfl, HBX, HB⟩
 case round =>
  clear HBX HB; obtain ⟨k, hk, rfl, HBX, HB⟩ := hrel; have q0 : wr.cell? ⟨gb, 0, none⟩ = some (.slice A0 nodes.length c0) := (aj HBX.out 0).trans rfl
  by_cases hlt : k < nodes.length
  ·obtain ⟨ad, e, x0, x1, x2, x3⟩ := lY (Kd.bZ HR0.out HB.out) (k : Int) (by omega) (by omega); subst e; rw [Int.toNat_natCast] at x0 x1 x2 x3; obtain ⟨bb, hbb, hgg⟩ := HN.out.at hlt; have HG := af.mk hgg
   obtain ⟨g, hg⟩ : ∃ g, g = aM nodes (k : Int) := ⟨_, rfl⟩
   rw [← hg] at x0 x1 x2 x3 HG; clear hbb hgg hg; go_wp2
   go_still_tail 8, (by kernel_rfl)
   change wpList _ _ _ _ _ wr.drew; go_wp2_with (first | (go_at_call 86; refine (DV HG.out (n := nodes.length) hlt _).mono ?_; rintro e w3 ⟨rfl, hb⟩; have HB3 := af.mk (az (ak HB.out) hb); have rA := af.mk (bf (aA HBX.out) hb); clear hb)); exact ⟨⟨k + 1, hlt, Le (by have := HL.out.1; omega), rA, HB3⟩, Lf hlt (by have := HL.out.1; omega)⟩
  ·go_wp2; refine jk (n := 8) (S := fun w' => w'.cell? ⟨gb, 1, none⟩ = some (.slice A1 ins.length c1) ∧ w'.cell? ⟨gb, 2, none⟩ = some (.slice A2 outs.length c2)) (ds := []) #[false, false, false, false, false, false, false, false] (by kernel_rfl) rfl rfl ⟨(aj (aA HBX.out) 1).trans rfl, (aj (aA HBX.out) 2).trans rfl⟩ (fun hHeld => ?_); refine eT Vl QK (fun HT_ HW_ => ?_); have Vm := af.mk (aA HBX.out); have HB1 := af.mk (ak HB.out); clear HBX HB q0; generalize wr.drew = W at Vm HB1 hHeld ⊢; refine bB (i := 1) (N := some 25) (v := ?_) (a' := ?_) #[false, true, false, false, false, false, false, false] rfl rfl (aU HT_.out (by kernel_rfl)) (fun _ _ _ h => h) (Or.inl ⟨by rfl, ?_⟩) ?_ ?_; rotate_left
   ·intro w'; go_simp; with_reducible rfl
   rotate_left
   ·simp only [Act.put, List.setIfInBounds_toArray, List.set_cons_zero, List.set_cons_succ, aG, aJ]; rfl
   refine bB (i := 4) (N := some 28) (v := ?_) (a' := ?_) #[false, true, false, false, true, false, false, false] rfl rfl (aU HT_.out (by kernel_rfl)) (fun _ _ _ h => h) (Or.inl ⟨by rfl, ?_⟩) ?_ ?_; rotate_left
   ·intro w'; go_simp; with_reducible rfl
   rotate_left
   ·simp only [Act.put, List.setIfInBounds_toArray, List.set_cons_zero, List.set_cons_succ, aG, aJ]; rfl
   refine eD (i := 2) (N := some 26) (v := ?_) (a' := ?_) #[false, true, true, false, true, false, false, false] rfl rfl (bP HT_.out HW_.out (by kernel_rfl)) (fun _ _ _ h => h) (Or.inl ⟨by rfl, ?_⟩) hHeld ?_ ?_; rotate_left
   ·rintro w' ⟨s0, s1⟩; go_simp; with_reducible rfl
   rotate_left
   ·simp only [Act.put, List.setIfInBounds_toArray, List.set_cons_zero, List.set_cons_succ, aG, aJ]; rfl
   refine eD (i := 5) (N := some 29) (v := ?_) (a' := ?_) #[false, true, true, false, true, true, false, false] rfl rfl (bP HT_.out HW_.out (by kernel_rfl)) (fun _ _ _ h => h) (Or.inl ⟨by rfl, ?_⟩) hHeld ?_ ?_; rotate_left
   ·rintro w' ⟨s0, s1⟩; go_simp; with_reducible rfl
   rotate_left
   ·simp only [Act.put, List.setIfInBounds_toArray, List.set_cons_zero, List.set_cons_succ, aG, aJ]; rfl
   refine jR (i := 0) (N := some 24) #[true, true, true, false, true, true, false, false] rfl rfl (dD HT_.out (by kernel_rfl)) (by decide) (fun K hK => ?_); refine Kd.yJ k94 w.heap.size 94 ?hg (N' := 24) ?hd (xs := ([] : List S94)) (inner := []) (ok := fun _ => True) (okp := fun _ => True) ?hr ?hp (fun _ hk => hk) trivial HB1.out HB1.out.size (by simp) ?_; (case hd => rfl); (case hg => rfl); (case hr => first | (go_simp; done) | (go_simp; rfl)); (case hp => exact (dX.none _ _)); intro v1 w1 ho hb hg hat; obtain ⟨b1, hb1, hle1⟩ := hat; have HO1 := af.mk ho; have HB2 := af.mk hb; have hlt1 := fC Vm.out; have QL := af.mk ((hg.block gb hlt1 (by simp)).trans Vm.out)
   have HV1 : af (∃ b, v1.ownBlock = some b ∧ gb < b ∧ w.heap.size ≤ b) := ⟨b1, hb1, by omega, Nat.le_trans HB1.out.size hle1⟩
   clear ho hb hg hb1 hle1 hlt1 Vm HB1; refine hK.out _ _ ⟨(aj QL.out 1).trans rfl, (aj QL.out 2).trans rfl⟩ (fun hHeld => ?_); clear hK K; refine fD (a' := ?_) ?_ ?_; rotate_left
   ·show Act.put _ (some 24) _ = _; simp only [Act.put, List.setIfInBounds_toArray, List.set_cons_zero, List.set_cons_succ, aG, aJ]; rfl
   refine jR (i := 3) (N := some 27) #[true, true, true, true, true, true, false, false] rfl rfl (dD HT_.out (by kernel_rfl)) (by decide) (fun K hK => ?_); refine Kd.j3 k94 (w0 := w) w.heap.size (by rfl) (.tmp 24) (.tmp 26) 53 94 (.agg #[(.string ⟨#[]⟩), (.slice none 0 0)]) 40 rfl Try.underlying53 yS rfl (by decide) (by omega) v1 ([] : List S94) ins _ _ _ (fun _ => True) (fun k_ => k_ < w.heap.size) rfl rfl HO1.out (Kd.jW (Kd.C_F Ga HR1.out) HB2.out) (fun k_ hk => ⟨trivial, ?hne⟩) (fun _ _ => trivial) HB2.out HB2.out.size ?hll ?_
   case hne => obtain ⟨b, hb, _, hle⟩ := HV1.out; rw [hb]; intro h; injection h with h; omega
   case hll => have := HL.out.2; rw [List.length_append] at this; simp; omega
   intro v2 w2 ho hb hg hat; have HO2 := af.mk ho; have HB3 := af.mk hb; have hlt1 := fC QL.out
   have hne : some gb ≠ v1.ownBlock := by obtain ⟨b, hb, hlt, _⟩ := HV1.out; rw [hb]; intro h; injection h with h; omega
   have rA := af.mk ((hg.block gb hlt1 hne).trans QL.out)
   have HV2 : af (∃ b, v2.ownBlock = some b ∧ gb < b ∧ w.heap.size ≤ b) := ⟨by rcases hat with hat | ⟨b, hb, hle⟩; rw [hat]; exact HV1.out; exact ⟨b, hb, by omega, Nat.le_trans HB2.out.size hle⟩⟩
   clear ho hb hg hat hlt1 hne QL HB2 HO1 HV1; refine hK.out _ _ ⟨(aj rA.out 1).trans rfl, (aj rA.out 2).trans rfl⟩ (fun hHeld => ?_); clear hK K; refine fD (a' := ?_) ?_ ?_; rotate_left
   ·show Act.put _ (some 27) _ = _; simp only [Act.put, List.setIfInBounds_toArray, List.set_cons_zero, List.set_cons_succ, aG, aJ]; rfl
   refine jR (i := 6) (N := some 30) #[true, true, true, true, true, true, true, false] rfl rfl (dD HT_.out (by kernel_rfl)) (by decide) (fun K hK => ?_); refine Kd.j3 k94 (w0 := w) w.heap.size (by rfl) (.tmp 27) (.tmp 29) 53 94 (.agg #[(.string ⟨#[]⟩), (.slice none 0 0)]) 40 rfl Try.underlying53 yS rfl (by decide) (by omega) v2 ([] ++ ins) outs _ _ _ (fun _ => True) (fun k_ => k_ < w.heap.size) rfl rfl HO2.out (Kd.jW (Kd.C_F Ga HR2.out) HB3.out) (fun k_ hk => ⟨trivial, ?hne⟩) (fun _ _ => trivial) HB3.out HB3.out.size ?hll ?_
   case hne => obtain ⟨b, hb, _, hle⟩ := HV2.out; rw [hb]; intro h; injection h with h; omega
   case hll => have := HL.out.2; rw [List.length_append] at this; simp; omega
   intro v3 w3 ho hb hg hat; have HO3 := af.mk ho; have HB4 := af.mk hb; have hlt1 := fC rA.out
   have hne : some gb ≠ v2.ownBlock := by obtain ⟨b, hb, hlt, _⟩ := HV2.out; rw [hb]; intro h; injection h with h; omega
   have Jt := af.mk ((hg.block gb hlt1 hne).trans rA.out)
   have HV3 : af (∃ b, v3.ownBlock = some b ∧ gb < b ∧ w.heap.size ≤ b) := ⟨by rcases hat with hat | ⟨b, hb, hle⟩; rw [hat]; exact HV2.out; exact ⟨b, hb, by omega, Nat.le_trans HB3.out.size hle⟩⟩
   clear ho hb hg hat hlt1 hne rA HB3 HO2 HV2; refine hK.out _ _ ⟨(aj Jt.out 1).trans rfl, (aj Jt.out 2).trans rfl⟩ (fun hHeld => ?_); clear hK K; refine fD (a' := ?_) ?_ ?_; rotate_left
   ·show Act.put _ (some 30) _ = _; simp only [Act.put, List.setIfInBounds_toArray, List.set_cons_zero, List.set_cons_succ, aG, aJ]; rfl
   refine bB (i := 7) (N := some 4) (v := ?_) (a' := ?_) #[true, true, true, true, true, true, true, true] rfl rfl (aU HT_.out (by kernel_rfl)) (fun _ _ _ h => h) (Or.inl ⟨by rfl, ?_⟩) ?_ ?_; rotate_left
   ·intro w'; go_simp; with_reducible rfl
   rotate_left
   ·simp only [Act.put, List.setIfInBounds_toArray, List.set_cons_zero, List.set_cons_succ, aG, aJ]; rfl
   refine jB (gq HT_.out (by kernel_rfl)) ?_; obtain ⟨A3, c3, e3⟩ := Kd.rJ HO3.out; have HC3 := af.mk (show Kd.C k94 w3 A3 (ins ++ outs).length (ins ++ outs) by have := Kd.uY (e3 ▸ HO3.out); exact this.2.2); obtain rfl : v3 = .slice A3 (ins ++ outs).length c3 := e3; have HX3 := af.mk ((aj Jt.out 0).trans rfl : w3.cell? ⟨gb, 0, none⟩ = some (.slice A0 nodes.length c0)); clear HO3 HV3 HR0 HR1 HR2 HN Jt
   obtain ⟨Lp, hLp⟩ : ∃ Lp, Lp = ins ++ outs := ⟨_, rfl⟩
   rw [← hLp] at HI HL HC3 ⊢; clear hLp; go_wp2
   go_loopw [5] (fun x wr => ∃ k : Nat, k ≤ Lp.length ∧ x = .int .i64 (k : Int) ∧ af (wr.cell? ⟨gb, 0, none⟩ = some (.slice A0 nodes.length c0)) ∧ af (Kd.C k94 wr A3 Lp.length Lp) ∧ af (Below w.heap.size w wr))
    (fun x _ => Lp.length - (intOf x).toNat)
   case atStart => exact ⟨0, Nat.zero_le _, rfl, HX3, HC3, HB4⟩
   case round =>
    clear HX3 HC3 HB4; obtain ⟨k, hk, rfl, HX, HC, HB⟩ := hrel
    by_cases hlt : k < Lp.length
    ·obtain ⟨ad, A4, c4, e, x0, x1, hl4, hi4⟩ := rz HC.out (k : Int) (by omega) (by omega); subst e; rw [Int.toNat_natCast] at x0 x1; have hp := HI.out _ (show bE Lp (k : Int) ∈ Lp by rw [Fs Lp k hlt]; exact List.getElem_mem _)
     obtain ⟨p, hpe⟩ : ∃ p, p = bE Lp (k : Int) := ⟨_, rfl⟩
     rw [← hpe] at x0 x1 hl4 hi4 hp; clear hpe; have HP := af.mk hp; have HI4 := af.mk hi4; have HL4 := af.mk hl4
     have z : ((p.f1.length : Int) == 0) = false := by
      rw [beq_eq_false_iff_ne]; intro h; exact hp.1 (List.eq_nil_of_length_eq_zero (by omega))
     clear hp hi4 hl4; go_wp2
     obtain ⟨wo, hwo⟩ : ∃ wo, wo = wr := ⟨_, rfl⟩
     subst hwo
     go_loopw [6] (fun x wq => ∃ j : Nat, j ≤ p.f1.length ∧ x = .int .i64 (j : Int) ∧ af (Below wo.heap.size wo wq))
      (fun x _ => p.f1.length - (intOf x).toNat)
     case atStart => exact ⟨0, Nat.zero_le _, rfl, ⟨Below.refl _ _⟩⟩
     case round =>
      obtain ⟨j, hj, rfl, HQ⟩ := hrel; have y1 := (HQ.out.cell (World.block_lt_of_cell? wo _ x1)).trans x1; have y0 := (HQ.out.cell (World.block_lt_of_cell? wo _ HX.out)).trans HX.out
      by_cases hlj : j < p.f1.length
      ·obtain ⟨a5, e5, y5⟩ := Kd.dA (Kd.bZ HI4.out HQ.out) (j : Int) (by omega) (by omega); subst e5; obtain ⟨a, ha, han⟩ := HP.out.2.2 j hlj; rw [ha, Int.toNat_natCast] at y5; have d1 : decide ((a : Int) < 0) = false := decide_eq_false (by omega); have d2 : decide ((a : Int) ≥ (nodes.length : Int)) = false := decide_eq_false (by omega)
       have d3 : (j : Int) < (p.f1.length : Int) := by omega
       have d4 : (k : Int) < (Lp.length : Int) := by omega
       clear ha x0 x1; go_wp2
       go_quiet (fail)
       go_wp2; have := HP.out.2.1; exact ⟨⟨j + 1, hlj, Le (by omega), ⟨ah HQ.out _⟩⟩, Lf hlj (by omega)⟩
      ·go_wp2; have hL := HL.out.2; exact ⟨⟨k + 1, hlt, Le (by omega), ⟨y0⟩, ⟨Kd.bZ HC.out HQ.out⟩, ⟨az HB.out HQ.out⟩⟩, Lf hlt (by omega)⟩
    ·go_wp2; go_ret; exact ⟨rfl, HB.out⟩
end Go.Proofs.Ytkgeihbcikiedaa.P
set_option linter.unusedVariables false
set_option linter.unusedSimpArgs false
set_option linter.constructorNameAsVariable false
set_option linter.unusedSectionVars false
namespace Go.Proofs.Ytkgeihbcikiedaa.P
open Go.RowKit Go.Proofs.Ytkgeihbcikiedaa.N Go.Proofs.YtkgeihbcikiedaaW.PrintWords Go.Proofs.YtkgeihbcikiedaaW.PrintLast Go.Proofs.YtkgeihbcikiedaaW.PrintMore
attribute [local go_sem] dM dN eu eB dx dz dO dP
def adL : Value → Nat
 | .slice _ n _ => n
 | _ => 0
def Tri (B : Nat) (W : World) (v4 v5 v6 : Value) (x4 x5 x6 : List Int) : Prop :=
 Kd.R (Kd.int .i64) 3 W B (fun k_ => some k_ ≠ v5.ownBlock ∧ some k_ ≠ v6.ownBlock) v4 x4 ∧ Kd.R (Kd.int .i64) 3 W B (fun k_ => some k_ ≠ v4.ownBlock ∧ some k_ ≠ v6.ownBlock) v5 x5 ∧ Kd.R (Kd.int .i64) 3 W B (fun k_ => some k_ ≠ v4.ownBlock ∧ some k_ ≠ v5.ownBlock) v6 x6
namespace Tri
variable {B : Nat} {W W1 : World} {v4 v5 v6 v : Value} {x4 x5 x6 x : List Int}
theorem below (h : Tri B W v4 v5 v6 x4 x5 x6) (hb : Below W.heap.size W W1) : Tri B W1 v4 v5 v6 x4 x5 x6 := ⟨Kd.dB h.1 hb, Kd.dB h.2.1 hb, Kd.dB h.2.2 hb⟩
theorem adM (h : Tri B W v4 v5 v6 x4 x5 x6) (ho : Kd.R (Kd.int .i64) 3 W1 B (fun k_ => some k_ ≠ v4.ownBlock ∧ some k_ ≠ v5.ownBlock) v x) (hg : W.grownBy W1 v6.ownBlock) (hat : v.ownBlock = v6.ownBlock ∨ ∃ b, v.ownBlock = some b ∧ W.heap.size ≤ b) : Tri B W1 v4 v5 v x4 x5 x :=
 ⟨Kd.rW (ok := fun k_ => some k_ ≠ v5.ownBlock) h.1 hg hat, Kd.rW (ok := fun k_ => some k_ ≠ v4.ownBlock) h.2.1 hg hat, ho⟩
theorem adN (h : Tri B W v4 v5 v6 x4 x5 x6) (ho : Kd.R (Kd.int .i64) 3 W1 B (fun k_ => some k_ ≠ v4.ownBlock ∧ some k_ ≠ v6.ownBlock) v x) (hg : W.grownBy W1 v5.ownBlock) (hat : v.ownBlock = v5.ownBlock ∨ ∃ b, v.ownBlock = some b ∧ W.heap.size ≤ b) : Tri B W1 v4 v v6 x4 x x6 :=
 ⟨Kd.dV (Kd.rW (ok := fun k_ => some k_ ≠ v6.ownBlock) (Kd.dV h.1 fun _ hk => ⟨hk.2, hk.1⟩) hg hat) (fun _ hk => ⟨hk.2, hk.1⟩), ho, Kd.rW (ok := fun k_ => some k_ ≠ v4.ownBlock) h.2.2 hg hat⟩
theorem adO (h : Tri B W v4 v5 v6 x4 x5 x6) (ho : Kd.R (Kd.int .i64) 3 W1 B (fun k_ => some k_ ≠ v5.ownBlock ∧ some k_ ≠ v6.ownBlock) v x) (hg : W.grownBy W1 v4.ownBlock) (hat : v.ownBlock = v4.ownBlock ∨ ∃ b, v.ownBlock = some b ∧ W.heap.size ≤ b) : Tri B W1 v v5 v6 x x5 x6 :=
 ⟨ho, Kd.dV (Kd.rW (ok := fun k_ => some k_ ≠ v6.ownBlock) (Kd.dV h.2.1 fun _ hk => ⟨hk.2, hk.1⟩) hg hat) (fun _ hk => ⟨hk.2, hk.1⟩), Kd.dV (Kd.rW (ok := fun k_ => some k_ ≠ v5.ownBlock) (Kd.dV h.2.2 fun _ hk => ⟨hk.2, hk.1⟩) hg hat) (fun _ hk => ⟨hk.2, hk.1⟩)⟩
theorem adP {g n c : Nat} (h : Tri B W (.slice (some ⟨g, 0, none⟩) n c) v5 v6 x4 x5 x6) (i : Int) (x : Int) : Tri B (W.setCell ⟨g, i.toNat, none⟩ (.int .i64 x)) (.slice (some ⟨g, 0, none⟩) n c) v5 v6 (x4.set i.toNat x) x5 x6 :=
 h.adO (Kd.ni h.1 i x).1 (Kd.ni h.1 i x).2 (.inl rfl)
theorem adQ {A : Option Addr} {n c m : Nat} (h : Tri B W v4 v5 (.slice A n c) x4 x5 x6) (hm : m ≤ x6.length) (he : (Value.slice A m c).ownBlock = (Value.slice A n c).ownBlock) : Tri B W v4 v5 (.slice A m c) x4 x5 (x6.take m) := by
 refine ⟨?_, ?_, Kd.O8 h.2.2 hm⟩
 ·rw [he]; exact h.1
 ·rw [he]; exact h.2.1
end Tri
theorem Vn {P : Program} (t e : TypeId) (kh : IntKind) {i : TypeInfo} (ht : P.underlying t = some (.slice e)) (hi : P.info? e = some i) (A : Option Addr) (n c j : Nat) (hj : j ≤ n) (hc : n ≤ c) :
 ∀ W : World, (Instr.slice t (.slice A n c) none (some (.int kh (j : Int))) none).run P W = .ok (.slice A j c) W := by
 intro W
 have hel : P.elem t = e := by simp [Program.elem, ht]
 have hu : P.underlying t = some (.slice (P.elem t)) := by rw [hel]; exact ht
 rw [run_slice_h W t _ n c hu kh j (by omega) (by omega), hel]
 have ha : (A.map fun x => x.add 0) = A := by cases A <;> simp [Addr.add]
 simp [sizeOf, typeInfo, hi, sliced, Result.andThen, ha]
theorem Ju {v : List Bool} {i : Nat} {g : S92} {b : Bool} (h : Gt v i g b) (w : World) : Calls Try.prog 73 #[.agg #[.int .i64 g.f0, .int .i64 g.f1, .int .i64 g.f2, .int .i64 g.f3]] w fun e w' => ∃ u, e = .returned u ∧ Kd.R (Kd.int .i64) 3 w' w.heap.size (fun _ => True) u (kX g) ∧ Below w.heap.size w w' := by
 obtain ⟨K, hK⟩ := TE h; exact cB.calls K _ _ _ _ _ w (hK K (Nat.le_refl _))
set_option maxHeartbeats 8000000 in
set_option maxRecDepth 100000 in
theorem Jv {nodes : List S92} {v : List Bool} {ins outs : List S94} (hn : Nt nodes v) (hl : nodes.length < 1000000) (hi : ∀ p ∈ ins ++ outs, sj nodes.length p) (hli : (ins ++ outs).length < 1000000)
 (A0 : Option Addr) (c0 : Nat) (A1 : Option Addr) (c1 : Nat) (A2 : Option Addr) (c2 : Nat) (w : World) (hr0 : Kd.C k92 w A0 nodes.length nodes) (hc0 : nodes.length ≤ c0) (hr1 : Kd.C k94 w A1 ins.length ins) (hc1 : ins.length ≤ c1) (hr2 : Kd.C k94 w A2 outs.length outs) (hc2 : outs.length ≤ c2) :
 Calls Try.prog 46 #[.agg #[.slice A0 nodes.length c0, .slice A1 ins.length c1, .slice A2 outs.length c2]] w fun e w' => ∃ u, e = .returned (.tuple #[u, .bool true]) ∧ Kd.R (Kd.int .i64) 3 w' w.heap.size (fun _ => True) u (upTo nodes.length) ∧ Below w.heap.size w w' := by
 have BB := Try.underlying55; have MI := Try.underlying92; have HR0 := af.mk hr0
 have HF := fun W (hb : Below w.heap.size w W) => DW hn hl hi hli A0 c0 A1 c1 A2 c2 W (Kd.bZ hr0 hb) hc0 (Kd.bZ hr1 hb) hc1 (Kd.bZ hr2 hb) hc2
 have HFF := af.mk HF; have HN := af.mk hn; have HL := af.mk hl; clear hr0 hr1 hr2 hc0 hc1 hc2 hn hl hi hli HF
 go_enter Try.func46, Try.ntmps46
 go_wp2_with (first | ((with_reducible refine bQ (N := 1) rfl ?_); (try (refine sZ (by rfl) ?_; dsimp only)); refine di ?hg (N := 1) ?hd (cs := #[.slice A0 nodes.length c0, .slice A1 ins.length c1, .slice A2 outs.length c2]) (t := 55) ?hr ?_; (case hd => rfl); (case hg => rfl); (case hr => first | (go_simp; done) | (go_simp; rfl)); intro gb hg w2 hbox hb; have HBX := af.mk hbox; have HB := af.mk (az (Below.refl _ _) hb); have q0 : w2.cell? ⟨gb, 0, none⟩ = some (.slice A0 nodes.length c0) := (aj hbox 0).trans rfl; have q1 : w2.cell? ⟨gb, 1, none⟩ = some (.slice A1 ins.length c1) := (aj hbox 1).trans rfl; have q2 : w2.cell? ⟨gb, 2, none⟩ = some (.slice A2 outs.length c2) := (aj hbox 2).trans rfl; clear hg hbox hb) | (go_at_call 72; refine (HFF.out _ HB.out).mono ?_; rintro e w3 ⟨rfl, hb⟩; have HB3 := af.mk (az HB.out hb); have rA := af.mk (bf HBX.out hb); clear hb HBX HB HFF q0 q1 q2; have q0 : w3.cell? ⟨gb, 0, none⟩ = some (.slice A0 nodes.length c0) := (aj rA.out 0).trans rfl) | ((with_reducible refine bQ (N := 18) rfl ?_); refine Kd.sU (Kd.int .i64) w.heap.size 3 rfl (N := 18) rfl 44 _ _ rfl (nodes.length : Int) rfl rfl Try.underlying44 (.int .i64 0) 8 info3 rfl (by decide) (by omega) 0 (ok := fun _ => True) (okp := fun _ => True) rfl (fun _ hk => hk) trivial (by omega) (by have := HL.out; omega) HB3.out HB3.out.size ?_; intro v4 w4 ho hb hg hnew; rw [Int.toNat_natCast] at ho; have HO4 := af.mk ho; have HB4 := af.mk hb; have Jt := af.mk ((hg.block gb (fC rA.out) (by simp)).trans rA.out); clear ho hb hg hnew HB3 rA q0) | ((with_reducible refine bQ (N := 19) rfl ?_); refine Kd.oz (Kd.int .i64) _ 3 ?hg (N := 19) ?hd (xs := ([] : List Int)) (inner := []) (ok := fun _ => True) (okp := fun _ => True) ?hr ?hp (fun _ hk => hk) trivial (Below.refl _ _) (Nat.le_refl _) (by simp) ?_; (case hd => rfl); (case hg => rfl); (case hr => first | (go_simp; done) | (go_simp; rfl)); (case hp => exact (dX.none _ _)); intro v5 w5 ho hb hg hnew; have ZJ := af.mk (Kd.jh HO4.out (Kd.gW ho) hb); have HO5 := af.mk (Kd.dW (Kd.oq ho (Kd.nJ HO4.out)) HB4.out.size); have HB5 := af.mk (az HB4.out hb); have adR := af.mk (bf Jt.out hb); clear ho hb hg hnew HB4 Jt HO4) | ((with_reducible refine bQ (N := 20) rfl ?_); refine Kd.oz (Kd.int .i64) _ 3 ?hg (N := 20) ?hd (xs := ([] : List Int)) (inner := []) (ok := fun _ => True) (okp := fun _ => True) ?hr ?hp (fun _ hk => hk) trivial (Below.refl _ _) (Nat.le_refl _) (by simp) ?_; (case hd => rfl); (case hg => rfl); (case hr => first | (go_simp; done) | (go_simp; rfl)); (case hp => exact (dX.none _ _)); intro v6 w6 ho hb hg hnew; have HT : af (Tri w.heap.size w6 v4 v5 v6 (List.replicate nodes.length 0) [] []) := ⟨Kd.dV (Kd.jh ZJ.out (Kd.gW ho) hb) (fun _ hk => ⟨hk.1.2, hk.2⟩), Kd.dV (Kd.jh HO5.out (Kd.gW ho) hb) (fun _ hk => ⟨hk.1.2, hk.2⟩), Kd.dV (Kd.dW (Kd.oq (Kd.oq ho (Kd.nJ ZJ.out)) (Kd.nJ HO5.out)) HB5.out.size) (fun _ hk => ⟨hk.1.2, hk.2⟩)⟩; have HB6 := af.mk (az HB5.out hb); have Ig := af.mk (bf adR.out hb); clear ho hb hg hnew HB5 adR ZJ HO5))
 go_loopw [5, 6, 7] (fun v5 v6 x wr => ∃ (k : Nat) (x4 : List Int), k ≤ nodes.length ∧ x = .int .i64 (k : Int) ∧ af (Tri w.heap.size wr v4 v5 v6 x4 (upTo k) []) ∧ af (x4.length = nodes.length ∧ (∀ a, a < k → rd x4 (a : Int) = 2) ∧ (∀ a, k ≤ a → a < nodes.length → rd x4 (a : Int) = 0)) ∧ af (wr.heap[gb]? = some (.cells #[.slice A0 nodes.length c0, .slice A1 ins.length c1, .slice A2 outs.length c2] 55 (0, 0))) ∧ af (Below w.heap.size w wr))
  (fun _ _ x _ => nodes.length - (intOf x).toNat)
 case atStart => exact ⟨0, _, Nat.zero_le _, rfl, HT, ⟨by simp, fun a ha => by omega, fun a _ _ => Fu _ a⟩, Ig, HB6⟩
 case round =>
  clear HT Ig HB6; obtain ⟨k, x4, hk, rfl, HT, HX, HBX, HB⟩ := hrel; have q0 : wr.cell? ⟨gb, 0, none⟩ = some (.slice A0 nodes.length c0) := (aj HBX.out 0).trans rfl
  by_cases hlt : k < nodes.length
  ·obtain ⟨sb, sc, e4, hsb, _, cells, hcl⟩ := Kd.kz HT.out.1 (by have := HX.out.1; omega); have HSB := af.mk hsb
   have HNE : af (gb ≠ sb) := ⟨fun h => by
    have h1 := HBX.out; rw [h, hcl] at h1
    simp at h1⟩
   clear hsb hcl; have hx4 : x4.length = nodes.length := HX.out.1; rw [hx4] at e4; subst e4; obtain ⟨z1, z2⟩ := Kd.fP 0 HT.out.1 (k : Int) (by omega) (by omega); rw [show j4 0 x4 (k : Int) = 0 from HX.out.2.2 k (Nat.le_refl _) hlt, Int.toNat_natCast] at z1; rw [Int.toNat_natCast] at z2
   have d1 : (k : Int) < (nodes.length : Int) := by omega
   go_wp2_with (first | ((with_reducible refine eZ (b := .append) (xs := #[.tmp 33, .tmp 35]) rfl ?_); at_builtin; refine Kd.jy (Kd.int .i64) (w0 := w) w.heap.size rfl (.tmp 33) (.tmp 35) 44 3 (.int .i64 0) 8 rfl Try.underlying44 info3 rfl (by decide) (by omega) u6 ([] : List Int) (k : Int) [.int .i64 (k : Int)] (fun k_ => some k_ ≠ (Value.slice (some ⟨sb, 0, none⟩) nodes.length sc).ownBlock ∧ some k_ ≠ u5.ownBlock) (fun _ => False) rfl rfl ?aP (fun _ hk => hk.elim) ?aF ?aO ?aB ?aS ?aL ?_; (case aP => exact rfl); (case aB => exact HB.out); (case aF => exact fun k_ hk => ⟨Kd.fresh' (Kd.nJ HT.out.1) k_ hk, Kd.fresh' (Kd.nJ HT.out.2.1) k_ hk⟩); (case aO => exact HT.out.2.2); (case aS => exact HB.out.size); (case aL => have := HL.out; simp [uH]; try omega); intro v61 w61 ho hb hg hat; have HT' := af.mk (HT.out.adM ho hg hat); have HBX' := af.mk (fA (g := gb) HBX.out hg (Kd.mi HT.out.2.2 HBX.out (by decide))); have HB' := af.mk hb; clear ho hb hg hat HT HBX HB; clear z1 z2 q0))
   have hnx : ∃ x4' : List Int, x4'.length = nodes.length ∧ (∀ a, a < k + 1 → rd x4' (a : Int) = 2) ∧ (∀ a, k + 1 ≤ a → a < nodes.length → rd x4' (a : Int) = 0) ∧ x4' = (x4.set k 1).set k 2 := ⟨_, by simp [hx4], fun a ha => by
    rw [tF _ _ _ _ (by simp; omega)]
    by_cases h : k = a
    ·rw [if_pos h]
    ·rw [if_neg h, tF _ _ _ _ (by omega), if_neg h]; exact HX.out.2.1 a (by omega), fun a ha hb => by
    rw [tF _ _ _ _ (by simp; omega), if_neg (by omega), tF _ _ _ _ (by omega), if_neg (by omega)]; exact HX.out.2.2 a (by omega) hb, rfl⟩
   obtain ⟨x4', hx1, hx2, hx3, hx5⟩ := hnx
   have HX' : af (x4'.length = nodes.length ∧ (∀ a, a < k + 1 → rd x4' (a : Int) = 2) ∧ (∀ a, k + 1 ≤ a → a < nodes.length → rd x4' (a : Int) = 0)) := ⟨hx1, hx2, hx3⟩
   have HX5 := af.mk hx5; clear hx1 hx2 hx3 hx5
   go_loopw [5, 6] (fun v5 v6 wr => ∃ b : Bool, af (Tri w.heap.size wr (.slice (some ⟨sb, 0, none⟩) nodes.length sc) v5 v6 (if b = true then x4' else x4) (if b = true then upTo (k + 1) else upTo k) (if b = true then [] else [(k : Int)])) ∧ af (wr.heap[gb]? = some (.cells #[.slice A0 nodes.length c0, .slice A1 ins.length c1, .slice A2 outs.length c2] 55 (0, 0))) ∧ af (Below w.heap.size w wr))
    (fun _ v6 _ => adL v6)
   case atStart => exact ⟨false, HT', HBX', HB'⟩
   case round =>
    clear HT' HBX' HB'; obtain ⟨b, HT, HBX, HB⟩ := hrel; have q0 : wr.cell? ⟨gb, 0, none⟩ = some (.slice A0 nodes.length c0) := (aj HBX.out 0).trans rfl
    cases b with
    | true =>
     obtain ⟨A6, c6, e6⟩ := Kd.bL HT.out.2.2; subst e6; go_wp2; have hL := HL.out; exact ⟨⟨k + 1, x4', hlt, Le (by omega), HT, HX', HBX, HB⟩, Lf hlt (by omega)⟩
    | false =>
     have hT : Tri w.heap.size wr (.slice (some ⟨sb, 0, none⟩) nodes.length sc) u5 u6 x4 (upTo k) [(k : Int)] := HT.out; clear HT; obtain ⟨g6, c6, e6, _⟩ := Kd.kz hT.2.2 (by simp); subst e6; obtain ⟨s1, s2⟩ := Kd.fP 0 hT.2.2 (0 : Int) (by omega) (by simp); have s1 : wr.cell? ⟨g6, 0, none⟩ = some (.int .i64 (k : Int)) := s1; have hc6 : 1 ≤ c6 := (Kd.bX hT.2.2).2.1; have HC6 := af.mk hc6; have HT := af.mk hT; obtain ⟨ad, e, x0, x1, x2, x3⟩ := lY (Kd.bZ HR0.out HB.out) (k : Int) (by omega) (by omega); subst e; rw [Int.toNat_natCast] at x0 x1 x2 x3; obtain ⟨bb, hbb, hgg⟩ := HN.out.at hlt; have HG := af.mk hgg
     obtain ⟨g, hg⟩ : ∃ g, g = aM nodes (k : Int) := ⟨_, rfl⟩
     rw [← hg] at x0 x1 x2 x3 HG; have z7 : (g.f0 != 7) = true := bne_iff_ne.mpr HG.out.kind; clear hbb hgg hg hT s2; go_wp2_with (first | (go_at_call 73; refine (Ju HG.out _).mono ?_; rintro e w7 ⟨u10, rfl, hu, hb⟩; obtain ⟨A10, c10, e10⟩ := Kd.bL hu; subst e10; have HU := af.mk (Kd.bX hu).2.2; have HT7 := af.mk (HT.out.below hb); have adS := af.mk (bf HBX.out hb); have HB7 := af.mk (az HB.out hb); clear hu hb HT HBX HB))
     have hs1 := (Kd.kz HT7.out.2.2 (by simp))
     go_loopw [9, 11] (fun x9 x11 wq => ∃ j : Nat, j ≤ (kX g).length ∧ x9 = .int .i64 (-1) ∧ x11 = .int .i64 (j : Int) ∧ wq = w7)
      (fun _ x _ => (kX g).length - (intOf x).toNat)
     case atStart => exact ⟨0, Nat.zero_le _, rfl, rfl, rfl⟩
     case round =>
      obtain ⟨j, hj, rfl, rfl, rfl⟩ := hrel; have u3 := (KL HG.out).1
      by_cases hlj : j < (kX g).length
      ·obtain ⟨a, ha, hak⟩ := (KL HG.out).2 j hlj; obtain ⟨a5, e5, y5⟩ := Kd.dA HU.out (j : Int) (by omega) (by omega); subst e5; rw [ha, Int.toNat_natCast] at y5; obtain ⟨t1, t2⟩ := Kd.fP 0 HT7.out.1 (a : Int) (by omega) (by omega); rw [show j4 0 x4 (a : Int) = 2 from HX.out.2.1 a hak, Int.toNat_natCast] at t1
       have d3 : (j : Int) < ((kX g).length : Int) := by omega
       have d4 : (a : Int) < (nodes.length : Int) := by omega
       clear ha t2; go_wp2; exact ⟨⟨j + 1, hlj, rfl, by simp, trivial⟩, by simp only [intOf]; omega⟩
      ·obtain ⟨t1, t2⟩ := Kd.fP 0 HT7.out.1 (k : Int) (by omega) (by omega); rw [show j4 0 x4 (k : Int) = 0 from HX.out.2.2 k (Nat.le_refl _) hlt, Int.toNat_natCast] at t1; rw [Int.toNat_natCast] at t2; have hcut := Vn (P := Try.prog) 44 3 .i64 Try.underlying44 rfl (some ⟨g6, 0, none⟩) 1 c6 0 (by omega) HC6.out; go_wp2_with (first | ((with_reducible refine gu (t := 3) (p := 84) rfl ?_); refine fK (t := 3) (p := 84) (v := ?akX) (w1 := (wr.setCell ⟨sb, k, none⟩ (.int .i64 1))) ?hg ?ho ?hn ?hr ?_; (case ho => rfl); (case hg => rfl); (case hn => rfl); (case hr => first | (go_simp; done) | (go_simp; rfl)); intro w8 hw; have HT8 := af.mk (HT7.out.adP (k : Int) 1); rw [Int.toNat_natCast, ← hw] at HT8; have HB8 := af.mk (show Below w.heap.size w (wr.setCell ⟨sb, k, none⟩ (.int .i64 1)) from ay HB7.out HSB.out); rw [← hw] at HB8; have ZK : af (w8.heap[gb]? = some (.cells #[.slice (some ad) nodes.length c0, .slice A1 ins.length c1, .slice A2 outs.length c2] 55 (0, 0))) := ⟨by rw [hw]; exact (Below.heap_setCell wr ⟨sb, k, none⟩ _ gb HNE.out).trans adS.out⟩; clear hw HT7 HB7 adS t1 t2; obtain ⟨t1, t2⟩ := Kd.fP 0 HT8.out.1 (k : Int) (by omega) (by omega); rw [show j4 0 (x4.set k 1) (k : Int) = 1 from (tF _ _ _ _ (by omega)).trans (if_pos rfl), Int.toNat_natCast] at t1; rw [Int.toNat_natCast] at t2) | ((with_reducible refine eZ (b := .append) (xs := #[.tmp 92, .tmp 94]) rfl ?_); at_builtin; refine Kd.jy (Kd.int .i64) (w0 := w) w.heap.size rfl (.tmp 92) (.tmp 94) 44 3 (.int .i64 0) 8 rfl Try.underlying44 info3 rfl (by decide) (by omega) u5 (upTo k) (k : Int) [.int .i64 (k : Int)] (fun k_ => some k_ ≠ (Value.slice (some ⟨sb, 0, none⟩) nodes.length sc).ownBlock ∧ some k_ ≠ (Value.slice (some ⟨g6, 0, none⟩) 1 c6).ownBlock) (fun _ => False) rfl rfl ?aP (fun _ hk => hk.elim) ?aF ?aO ?aB ?aS ?aL ?_; (case aP => exact rfl); (case aB => exact HB8.out); (case aF => exact fun k_ hk => ⟨Kd.fresh' (Kd.nJ HT8.out.1) k_ hk, Kd.fresh' (Kd.nJ HT8.out.2.2) k_ hk⟩); (case aO => exact HT8.out.2.1); (case aS => exact HB8.out.size); (case aL => have := HL.out; rw [uH]; omega); intro v59 w9 ho hb hg hat; have HT9 := af.mk (HT8.out.adN ho hg hat); have adT := af.mk (fA (g := gb) ZK.out hg (Kd.mi HT8.out.2.1 ZK.out (by decide))); have HB9 := af.mk hb; clear ho hb hg hat HT8 ZK HB8 t1 t2; obtain ⟨t1, t2⟩ := Kd.fP 0 HT9.out.1 (k : Int) (by omega) (by omega); rw [Int.toNat_natCast] at t1 t2) | ((with_reducible refine gu (t := 3) (p := 98) rfl ?_); refine fK (t := 3) (p := 98) (v := ?ajm) (w1 := (w9.setCell ⟨sb, k, none⟩ (.int .i64 2))) ?hg ?ho ?hn ?hr ?_; (case ho => rfl); (case hg => rfl); (case hn => rfl); (case hr => first | (go_simp; done) | (go_simp; rfl)); intro w10 hw; have adU := af.mk (HT9.out.adP (k : Int) 2); rw [Int.toNat_natCast, ← hw] at adU; have adV := af.mk (show Below w.heap.size w (w9.setCell ⟨sb, k, none⟩ (.int .i64 2)) from ay HB9.out HSB.out); rw [← hw] at adV; have adW : af (w10.heap[gb]? = some (.cells #[.slice (some ad) nodes.length c0, .slice A1 ins.length c1, .slice A2 outs.length c2] 55 (0, 0))) := ⟨by rw [hw]; exact (Below.heap_setCell w9 ⟨sb, k, none⟩ _ gb HNE.out).trans adT.out⟩; clear hw HT9 HB9 adT t1 t2)); have h := adU.out.adQ (m := 0) (by simp) rfl; rw [← HX5.out, ← MV] at h; exact ⟨⟨true, ⟨h⟩, adW, adV⟩, by show 0 < 1; omega⟩
  ·obtain rfl : k = nodes.length := by omega
   go_wp2; go_ret2; exact ⟨_, rfl, Kd.dV HT.out.2.1 (fun _ _ => trivial), HB.out⟩
end Go.Proofs.Ytkgeihbcikiedaa.P
set_option linter.unusedVariables false
set_option linter.unusedSimpArgs false
set_option linter.constructorNameAsVariable false
set_option linter.unusedSectionVars false
namespace Go.Proofs.Ytkgeihbcikiedaa.P
open Go.RowKit Go.Proofs.Ytkgeihbcikiedaa.N Go.Proofs.YtkgeihbcikiedaaW.PrintWords Go.Proofs.YtkgeihbcikiedaaW.PrintLast Go.Proofs.YtkgeihbcikiedaaW.PrintMore Go.Proofs.Ytkgeihbcikiedaa.Sk
attribute [local go_sem] dM dN eu eB dx dz dO dP
def qN (nodes : List S92) (ins outs : List S94) (ws res : List (List Int)) : Prop :=
 ∀ (A0 : Option Addr) (c0 : Nat) (A1 : Option Addr) (c1 : Nat) (A2 : Option Addr) (c2 : Nat) (P1 : Nat → Prop) (A3 : Option Addr) (c3 : Nat) (w : World), Kd.C k92 w A0 nodes.length nodes → nodes.length ≤ c0 → Kd.C k94 w A1 ins.length ins → ins.length ≤ c1 → Kd.C k94 w A2 outs.length outs → outs.length ≤ c2 →
  Kd.V (Kd.slice 73 (Kd.int .u32)) 36 w w.heap.size P1 (.slice A3 ws.length c3) ws →
  Calls Try.prog 19 #[.agg #[.slice A0 nodes.length c0, .slice A1 ins.length c1, .slice A2 outs.length c2], .slice A3 ws.length c3] w fun e w' => ∃ u, e = .returned (.tuple #[u, .bool true]) ∧ Kd.V (Kd.slice 73 (Kd.int .u32)) 36 w' w.heap.size (fun k_ => w.heap.size ≤ k_) u res ∧ Below w.heap.size w w'
theorem Vo {w w5 : World} {A5 : Option Addr} {n c5 : Nat} {rs : List (List Int)} (hv : Kd.R (Kd.slice 36 (Kd.slice 73 (Kd.int .u32))) 29 w5 w.heap.size (fun _ => True) (.slice A5 n c5) [rs]) :
 ∃ ad A7 c7, A5 = some ad ∧ w5.cell? ad = some (.slice A7 rs.length c7) ∧ Kd.V (Kd.slice 73 (Kd.int .u32)) 36 w5 w.heap.size (fun k_ => w.heap.size ≤ k_) (.slice A7 rs.length c7) rs := by
 have hv6 : Kd.V (Kd.slice 36 (Kd.slice 73 (Kd.int .u32))) 29 w5 w.heap.size (fun k_ => w.heap.size ≤ k_) (.slice A5 n c5) [rs] := Kd.R_V (Kd.dV (Kd.gG hv) (fun k_ hk => hk.2.1)); have hn : n = 1 := (Kd.jT hv6).1; obtain ⟨ad, cs, e, hcl, hK, hcc, hin⟩ := Kd.Lg (Kd.V_F hv6) [] (0 : Int) (by omega) (by omega); obtain ⟨A7, c7, rfl, hl7, hf7⟩ := Kd.BH hK
 have e0 : ad.add 0 = ad := by simp [Addr.add]
 refine ⟨ad, A7, c7, e, ?_, Kd.Ip hl7 hf7⟩; have h := hcc 0 _ rfl
 simpa [e0] using h
set_option maxHeartbeats 8000000 in
set_option maxRecDepth 100000 in
theorem KA {nodes : List S92} {v : List Bool} {ins outs : List S94} (xs : List Nat) (hn : Nt nodes v) (hl : nodes.length < 1000000) (hp : ∀ p ∈ ins ++ outs, sj nodes.length p) (hlp : (ins ++ outs).length < 1000000) (hx : xs.length = ins.length)
 (hb : ∀ i, i < ins.length → bT (xs.getD i 0) ≤ (bE ins (i : Int)).f1.length)
 (hI : ∀ (i : Nat) (b : Bool), v[i]? = some b → (aM nodes (i : Int)).f0 = 1 → (b = true ↔ Hit ins xs ins.length 0 i)) :
 qN nodes ins outs (xs.map parts) (outs.map fun p => parts (bv (sD v p))) := by
 intro A0 c0 A1 c1 A2 c2 P1 A3 c3 w hr0 hc0 hr1 hc1 hr2 hc2 hw; obtain ⟨K, hK⟩ := IP (outs := outs) xs hn hl hp hlp hx hb hI; have HK := af.mk (hK K (Nat.le_refl _)); have HF := af.mk (fun W (hb : Below w.heap.size w W) => Jv hn hl hp hlp A0 c0 A1 c1 A2 c2 W (Kd.bZ hr0 hb) hc0 (Kd.bZ hr1 hb) hc1 (Kd.bZ hr2 hb) hc2); have HC := af.mk (show Kd.C k92 w A0 nodes.length nodes ∧ nodes.length ≤ c0 ∧ Kd.C k94 w A1 ins.length ins ∧ ins.length ≤ c1 ∧ Kd.C k94 w A2 outs.length outs ∧ outs.length ≤ c2 from ⟨hr0, hc0, hr1, hc1, hr2, hc2⟩); have HW := af.mk hw; have BB := Try.underlying55
 obtain ⟨ws, hws⟩ : ∃ ws, ws = xs.map parts := ⟨_, rfl⟩
 obtain ⟨rs, hrs⟩ : ∃ rs, rs = outs.map fun p => parts (bv (sD v p)) := ⟨_, rfl⟩
 rw [← hws, ← hrs] at HK; rw [← hws] at HW ⊢; rw [← hrs]; have HPX := af.mk (show ∀ W : World, Below w.heap.size w W → dX (Kd.FK (Kd.slice 36 (Kd.slice 73 (Kd.int .u32))) W (fun _ => True)) 1 [ws] [.slice A3 ws.length c3] from fun W hb => dX.one (Kd.Gb (Kd.jT HW.out).2.1 (Kd.sO (Kd.jW (Kd.V_F HW.out) hb) (fun _ _ => trivial))) (dX.none _ _)); clear hK hn hl hp hlp hx hb hI hr0 hc0 hr1 hc1 hr2 hc2 hw hws hrs
 go_enter Try.func19, Try.ntmps19
 go_wp2_with (first | ((with_reducible refine bQ (N := 2) rfl ?_); (try (refine sZ (by rfl) ?_; dsimp only)); refine di ?hg (N := 2) ?hd (cs := #[.slice A0 nodes.length c0, .slice A1 ins.length c1, .slice A2 outs.length c2]) (t := 55) ?hr ?_; (case hd => rfl); (case hg => rfl); (case hr => first | (go_simp; done) | (go_simp; rfl)); intro gb hg w2 hbox hb; have HBX := af.mk hbox; have HB := af.mk (az (Below.refl _ _) hb); have q0 : w2.cell? ⟨gb, 0, none⟩ = some (.slice A0 nodes.length c0) := (aj hbox 0).trans rfl; have q1 : w2.cell? ⟨gb, 1, none⟩ = some (.slice A1 ins.length c1) := (aj hbox 1).trans rfl; have q2 : w2.cell? ⟨gb, 2, none⟩ = some (.slice A2 outs.length c2) := (aj hbox 2).trans rfl; clear hg hbox hb) | (go_at_call 46; refine (HF.out _ HB.out).mono ?_; rintro e w3 ⟨u, rfl, hu, hb⟩; obtain ⟨A6, c6, e6⟩ := Kd.bL hu; subst e6; have HU := af.mk (Kd.bX hu).2; have HB3 := af.mk (az HB.out hb); have rA := af.mk (bf HBX.out hb); clear hb HBX HB HF q0 q1 q2 hu; have q0 : w3.cell? ⟨gb, 0, none⟩ = some (.slice A0 nodes.length c0) := (aj rA.out 0).trans rfl; have q1 : w3.cell? ⟨gb, 1, none⟩ = some (.slice A1 ins.length c1) := (aj rA.out 1).trans rfl; have q2 : w3.cell? ⟨gb, 2, none⟩ = some (.slice A2 outs.length c2) := (aj rA.out 2).trans rfl) | ((with_reducible refine bQ (N := 21) rfl ?_); refine Kd.abj (Kd.slice 36 (Kd.slice 73 (Kd.int .u32))) _ 29 ?hg (N' := 21) ?hd (xs := ([ws] : List (List (List Int)))) (inner := [.slice A3 ws.length c3]) (ok := fun _ => True) (okp := fun _ => True) ?hr ?hp (fun _ hk => hk) trivial (Below.refl _ _) (Nat.le_refl _) (by simp) ?_; (case hd => rfl); (case hg => rfl); (case hr => first | (go_simp; done) | (go_simp; rfl)); (case hp => exact HPX.out _ HB3.out); intro v4 w4 ho hb hg hnew; obtain ⟨A4, c4, e4⟩ := Kd.rJ ho; subst e4; have HN4 := af.mk (Kd.uY ho).2; have HB4 := af.mk (az HB3.out hb); have HU4 := af.mk (Kd.bZ HU.out.2 hb); clear ho hb hg hnew rA HB3 q0 q1 q2) | (go_at_call 47; refine (aT.calls K A0 c0 nodes A1 c1 ins A2 c2 outs A6 c6 (upTo nodes.length) A4 c4 [ws] [rs] 0 w4 (Kd.bZ HC.out.1 HB4.out) HC.out.2.1 (Kd.bZ HC.out.2.2.1 HB4.out) HC.out.2.2.2.1 (Kd.bZ HC.out.2.2.2.2.1 HB4.out) HC.out.2.2.2.2.2 HU4.out HU.out.1 HN4.out.2 HN4.out.1 HK.out).mono ?_; rintro e w5 ⟨v5, rfl, hv, hb⟩; obtain ⟨A5, c5, e5⟩ := Kd.bL hv; subst e5; have HB5 := af.mk hb; have HV7 := Vo hv; have hle := HB4.out.size; clear hv hb; obtain ⟨ad, A7, c7, rfl, x0, hV⟩ := HV7; have HV7 := af.mk (Kd.j6 hV (fun k_ hk => Nat.le_trans hle hk)); clear hV hle)); go_ret2; exact ⟨_, rfl, HV7.out, az HB4.out HB5.out⟩
end Go.Proofs.Ytkgeihbcikiedaa.P
