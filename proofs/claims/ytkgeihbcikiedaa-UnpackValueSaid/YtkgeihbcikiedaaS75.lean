/- The contract of reference 6's Formed, for all nets of fewer than a million nodes that stand behind those they use. -/
import Derived.Test.YtkgeihbcikiedaaS67
import Derived.Test.YtkgeihbcikiedaaPx3
import Derived.Deep.QuietTactic
import Derived.BigQuiet
import Derived.StillTailTactics
import Derived.Test.YtkgeihbcikiedaaPx0
set_option linter.unusedVariables false
set_option linter.unusedSimpArgs false
set_option linter.constructorNameAsVariable false
set_option linter.unusedSectionVars false
namespace Go.Proofs.Ytkgeihbcikiedaa.P
open Go.RowKit Go.Proofs.Ytkgeihbcikiedaa.N Go.Proofs.YtkgeihbcikiedaaW.PrintWords Go.Proofs.YtkgeihbcikiedaaW.PrintLast Go.Proofs.YtkgeihbcikiedaaW.PrintMore
attribute [local go_sem] eU eX fU fV dX dY eZ fo
def aev : List Nat := [0, 0, 2, 7, 0, 16, 63, 127]
noncomputable def XF : Bool × List (List Nat × List Nat) := iZ .any (opsOf Try.f72 6)
theorem VQ : iZ .any (opsOf Try.f72 6) = XF := rfl
theorem R5 : ji XF.2 aev = true := by kernel_rfl
theorem KQ {k : Nat} (h : k < 1000000000) : Value.int .i64 (wrap64 ((k : Int) + 1)) = .int .i64 ((k + 1 : Nat) : Int) := by rw [uG h]
theorem KR {n k : Nat} (h : k < n) (hn : n < 1000000000) : n - (intOf (.int .i64 (wrap64 ((k : Int) + 1)))).toNat < n - (intOf (.int .i64 (k : Int))).toNat := by
 rw [uG (by omega)]; simp only [intOf, Int.toNat_natCast]; omega
theorem EK {v : List Bool} {i : Nat} {g : S92} {b : Bool} (h : Gt v i g b) {n : Nat} (hn : i < n) (w : World) : Calls Try.prog 86 #[.agg #[.int .i64 g.f0, .int .i64 g.f1, .int .i64 g.f2, .int .i64 g.f3], .int .i64 (n : Int)] w fun e w' => e = .returned (.bool true) ∧ Below w.heap.size w w' := by
 obtain ⟨K, hK⟩ := NJ h hn; exact bz.calls K _ _ _ _ _ _ w (hK K (Nat.le_refl _))
set_option maxHeartbeats 8000000 in
set_option maxRecDepth 100000 in
theorem CG {nodes : List S92} {v : List Bool} {ins outs : List S94} (hn : Nt nodes v) (hl : nodes.length < 1000000) (hi : ∀ p ∈ ins ++ outs, vP nodes.length p) (hli : (ins ++ outs).length < 1000000)
 (A0 : Option Addr) (c0 : Nat) (A1 : Option Addr) (c1 : Nat) (A2 : Option Addr) (c2 : Nat) (w : World) (hr0 : Kd.C k92 w A0 nodes.length nodes) (hc0 : nodes.length ≤ c0) (hr1 : Kd.C k94 w A1 ins.length ins) (hc1 : ins.length ≤ c1) (hr2 : Kd.C k94 w A2 outs.length outs) (hc2 : outs.length ≤ c2) :
 Calls Try.prog 72 #[.agg #[.slice A0 nodes.length c0, .slice A1 ins.length c1, .slice A2 outs.length c2]] w fun e w' => e = .returned (.bool true) ∧ Below w.heap.size w w' := by
 have Bl := Try.underlying55; have Nf := Try.underlying92; have HR0 := af.mk hr0; have HR1 := af.mk hr1; have HR2 := af.mk hr2; have HC := af.mk (show nodes.length ≤ c0 ∧ ins.length ≤ c1 ∧ outs.length ≤ c2 from ⟨hc0, hc1, hc2⟩); have HN := af.mk hn; have HL := af.mk (show nodes.length < 1000000 ∧ (ins ++ outs).length < 1000000 from ⟨hl, hli⟩); have HI := af.mk hi; clear hr0 hr1 hr2 hc0 hc1 hc2 hn hl hi hli
 go_enter Try.func72, Try.ntmps72
 go_wp2_with (first | ((with_reducible refine bS (N := 1) rfl ?_); (try (refine sG (by rfl) ?_; dsimp only)); refine dw ?hg (N := 1) ?hd (cs := #[.slice A0 nodes.length c0, .slice A1 ins.length c1, .slice A2 outs.length c2]) (t := 55) ?hr ?_; (case hd => rfl); (case hg => rfl); (case hr => first | (go_simp; done) | (go_simp; rfl)); intro gb hg w2 hbox hb; have HBX := af.mk hbox; have HB := af.mk (aA (Below.refl _ _) hb); clear hg hbox hb))
 go_loopw [3] (fun x wr => ∃ k : Nat, k ≤ nodes.length ∧ x = .int .i64 (k : Int) ∧ af (wr.heap[gb]? = some (.cells #[.slice A0 nodes.length c0, .slice A1 ins.length c1, .slice A2 outs.length c2] 55 (0, 0))) ∧ af (Below w.heap.size w wr))
  (fun x _ => nodes.length - (intOf x).toNat)
 case atStart => exact ⟨0, Nat.zero_le _, rfl, HBX, HB⟩
 case round =>
  clear HBX HB; obtain ⟨k, hk, rfl, HBX, HB⟩ := hrel; have q0 : wr.cell? ⟨gb, 0, none⟩ = some (.slice A0 nodes.length c0) := (ak HBX.out 0).trans rfl
  by_cases hlt : k < nodes.length
  ·obtain ⟨ad, e, x0, x1, x2, x3⟩ := mE (Kd.bR HR0.out HB.out) (k : Int) (by omega) (by omega); subst e; rw [Int.toNat_natCast] at x0 x1 x2 x3; obtain ⟨bb, hbb, hgg⟩ := HN.out.at hlt; have HG := af.mk hgg
   obtain ⟨g, hg⟩ : ∃ g, g = aM nodes (k : Int) := ⟨_, rfl⟩
   rw [← hg] at x0 x1 x2 x3 HG; clear hbb hgg hg; go_wp2
   go_still_tail 8, (by kernel_rfl)
   change wpList _ _ _ _ _ wr.drew; go_wp2_with (first | (go_at_call 86; refine (EK HG.out (n := nodes.length) hlt _).mono ?_; rintro e w3 ⟨rfl, hb⟩; have HB3 := af.mk (aA (aj HB.out) hb); have qp := af.mk (bP (aH HBX.out) hb); clear hb)); exact ⟨⟨k + 1, hlt, KQ (by have := HL.out.1; omega), qp, HB3⟩, KR hlt (by have := HL.out.1; omega)⟩
  ·go_wp2; refine mF (n := 8) (S := fun w' => w'.cell? ⟨gb, 1, none⟩ = some (.slice A1 ins.length c1) ∧ w'.cell? ⟨gb, 2, none⟩ = some (.slice A2 outs.length c2)) (ds := []) #[false, false, false, false, false, false, false, false] (by kernel_rfl) rfl rfl ⟨(ak (aH HBX.out) 1).trans rfl, (ak (aH HBX.out) 2).trans rfl⟩ (fun hHeld => ?_); refine gW VQ R5 (fun HT_ HW_ => ?_); have VR := af.mk (aH HBX.out); have HB1 := af.mk (aj HB.out); clear HBX HB q0; generalize wr.drew = W at VR HB1 hHeld ⊢; refine bT (i := 1) (N := some 25) (v := ?_) (a' := ?_) #[false, true, false, false, false, false, false, false] rfl rfl (bB HT_.out (by kernel_rfl)) (fun _ _ _ h => h) (Or.inl ⟨by rfl, ?_⟩) ?_ ?_; rotate_left
   ·intro w'; go_simp; with_reducible rfl
   rotate_left
   ·simp only [Act.put, List.setIfInBounds_toArray, List.set_cons_zero, List.set_cons_succ, aU, aV]; rfl
   refine bT (i := 4) (N := some 28) (v := ?_) (a' := ?_) #[false, true, false, false, true, false, false, false] rfl rfl (bB HT_.out (by kernel_rfl)) (fun _ _ _ h => h) (Or.inl ⟨by rfl, ?_⟩) ?_ ?_; rotate_left
   ·intro w'; go_simp; with_reducible rfl
   rotate_left
   ·simp only [Act.put, List.setIfInBounds_toArray, List.set_cons_zero, List.set_cons_succ, aU, aV]; rfl
   refine iq (i := 2) (N := some 26) (v := ?_) (a' := ?_) #[false, true, true, false, true, false, false, false] rfl rfl (eB HT_.out HW_.out (by kernel_rfl)) (fun _ _ _ h => h) (Or.inl ⟨by rfl, ?_⟩) hHeld ?_ ?_; rotate_left
   ·rintro w' ⟨s0, s1⟩; go_simp; with_reducible rfl
   rotate_left
   ·simp only [Act.put, List.setIfInBounds_toArray, List.set_cons_zero, List.set_cons_succ, aU, aV]; rfl
   refine iq (i := 5) (N := some 29) (v := ?_) (a' := ?_) #[false, true, true, false, true, true, false, false] rfl rfl (eB HT_.out HW_.out (by kernel_rfl)) (fun _ _ _ h => h) (Or.inl ⟨by rfl, ?_⟩) hHeld ?_ ?_; rotate_left
   ·rintro w' ⟨s0, s1⟩; go_simp; with_reducible rfl
   rotate_left
   ·simp only [Act.put, List.setIfInBounds_toArray, List.set_cons_zero, List.set_cons_succ, aU, aV]; rfl
   refine jy (i := 0) (N := some 24) #[true, true, true, false, true, true, false, false] rfl rfl (fI HT_.out (by kernel_rfl)) (by decide) (fun K hK => ?_); refine Kd.yz k94 w.heap.size 94 ?hg (N' := 24) ?hd (xs := ([] : List S94)) (inner := []) (ok := fun _ => True) (okp := fun _ => True) ?hr ?hp (fun _ hk => hk) trivial HB1.out HB1.out.size (by simp) ?_; (case hd => rfl); (case hg => rfl); (case hr => first | (go_simp; done) | (go_simp; rfl)); (case hp => exact (eF.none _ _)); intro v1 w1 ho hb hg hat; obtain ⟨b1, hb1, hle1⟩ := hat; have HO1 := af.mk ho; have HB2 := af.mk hb; have hlt1 := gU VR.out; have R6 := af.mk ((hg.block gb hlt1 (by simp)).trans VR.out)
   have HV1 : af (∃ b, v1.ownBlock = some b ∧ gb < b ∧ w.heap.size ≤ b) := ⟨b1, hb1, by omega, Nat.le_trans HB1.out.size hle1⟩
   clear ho hb hg hb1 hle1 hlt1 VR HB1; refine hK.out _ _ ⟨(ak R6.out 1).trans rfl, (ak R6.out 2).trans rfl⟩ (fun hHeld => ?_); clear hK K; refine gN (a' := ?_) ?_ ?_; rotate_left
   ·show Act.put _ (some 24) _ = _; simp only [Act.put, List.setIfInBounds_toArray, List.set_cons_zero, List.set_cons_succ, aU, aV]; rfl
   refine jy (i := 3) (N := some 27) #[true, true, true, true, true, true, false, false] rfl rfl (fI HT_.out (by kernel_rfl)) (by decide) (fun K hK => ?_); refine Kd.kI k94 (w0 := w) w.heap.size (by rfl) (.tmp 24) (.tmp 26) 53 94 (.agg #[(.string ⟨#[]⟩), (.slice none 0 0)]) 40 rfl Try.underlying53 yO rfl (by decide) (by omega) v1 ([] : List S94) ins _ _ _ (fun _ => True) (fun k_ => k_ < w.heap.size) rfl rfl HO1.out (Kd.lT (Kd.C_F Gr HR1.out) HB2.out) (fun k_ hk => ⟨trivial, ?hne⟩) (fun _ _ => trivial) HB2.out HB2.out.size ?hll ?_
   case hne => obtain ⟨b, hb, _, hle⟩ := HV1.out; rw [hb]; intro h; injection h with h; omega
   case hll => have := HL.out.2; rw [List.length_append] at this; simp; omega
   intro v2 w2 ho hb hg hat; have HO2 := af.mk ho; have HB3 := af.mk hb; have hlt1 := gU R6.out
   have hne : some gb ≠ v1.ownBlock := by obtain ⟨b, hb, hlt, _⟩ := HV1.out; rw [hb]; intro h; injection h with h; omega
   have qp := af.mk ((hg.block gb hlt1 hne).trans R6.out)
   have HV2 : af (∃ b, v2.ownBlock = some b ∧ gb < b ∧ w.heap.size ≤ b) := ⟨by rcases hat with hat | ⟨b, hb, hle⟩; rw [hat]; exact HV1.out; exact ⟨b, hb, by omega, Nat.le_trans HB2.out.size hle⟩⟩
   clear ho hb hg hat hlt1 hne R6 HB2 HO1 HV1; refine hK.out _ _ ⟨(ak qp.out 1).trans rfl, (ak qp.out 2).trans rfl⟩ (fun hHeld => ?_); clear hK K; refine gN (a' := ?_) ?_ ?_; rotate_left
   ·show Act.put _ (some 27) _ = _; simp only [Act.put, List.setIfInBounds_toArray, List.set_cons_zero, List.set_cons_succ, aU, aV]; rfl
   refine jy (i := 6) (N := some 30) #[true, true, true, true, true, true, true, false] rfl rfl (fI HT_.out (by kernel_rfl)) (by decide) (fun K hK => ?_); refine Kd.kI k94 (w0 := w) w.heap.size (by rfl) (.tmp 27) (.tmp 29) 53 94 (.agg #[(.string ⟨#[]⟩), (.slice none 0 0)]) 40 rfl Try.underlying53 yO rfl (by decide) (by omega) v2 ([] ++ ins) outs _ _ _ (fun _ => True) (fun k_ => k_ < w.heap.size) rfl rfl HO2.out (Kd.lT (Kd.C_F Gr HR2.out) HB3.out) (fun k_ hk => ⟨trivial, ?hne⟩) (fun _ _ => trivial) HB3.out HB3.out.size ?hll ?_
   case hne => obtain ⟨b, hb, _, hle⟩ := HV2.out; rw [hb]; intro h; injection h with h; omega
   case hll => have := HL.out.2; rw [List.length_append] at this; simp; omega
   intro v3 w3 ho hb hg hat; have HO3 := af.mk ho; have HB4 := af.mk hb; have hlt1 := gU qp.out
   have hne : some gb ≠ v2.ownBlock := by obtain ⟨b, hb, hlt, _⟩ := HV2.out; rw [hb]; intro h; injection h with h; omega
   have IB := af.mk ((hg.block gb hlt1 hne).trans qp.out)
   have HV3 : af (∃ b, v3.ownBlock = some b ∧ gb < b ∧ w.heap.size ≤ b) := ⟨by rcases hat with hat | ⟨b, hb, hle⟩; rw [hat]; exact HV2.out; exact ⟨b, hb, by omega, Nat.le_trans HB3.out.size hle⟩⟩
   clear ho hb hg hat hlt1 hne qp HB3 HO2 HV2; refine hK.out _ _ ⟨(ak IB.out 1).trans rfl, (ak IB.out 2).trans rfl⟩ (fun hHeld => ?_); clear hK K; refine gN (a' := ?_) ?_ ?_; rotate_left
   ·show Act.put _ (some 30) _ = _; simp only [Act.put, List.setIfInBounds_toArray, List.set_cons_zero, List.set_cons_succ, aU, aV]; rfl
   refine bT (i := 7) (N := some 4) (v := ?_) (a' := ?_) #[true, true, true, true, true, true, true, true] rfl rfl (bB HT_.out (by kernel_rfl)) (fun _ _ _ h => h) (Or.inl ⟨by rfl, ?_⟩) ?_ ?_; rotate_left
   ·intro w'; go_simp; with_reducible rfl
   rotate_left
   ·simp only [Act.put, List.setIfInBounds_toArray, List.set_cons_zero, List.set_cons_succ, aU, aV]; rfl
   refine mY (jA HT_.out (by kernel_rfl)) ?_; obtain ⟨A3, c3, e3⟩ := Kd.rC HO3.out; have HC3 := af.mk (show Kd.C k94 w3 A3 (ins ++ outs).length (ins ++ outs) by have := Kd.uX (e3 ▸ HO3.out); exact this.2.2); obtain rfl : v3 = .slice A3 (ins ++ outs).length c3 := e3; have HX3 := af.mk ((ak IB.out 0).trans rfl : w3.cell? ⟨gb, 0, none⟩ = some (.slice A0 nodes.length c0)); clear HO3 HV3 HR0 HR1 HR2 HN IB
   obtain ⟨Lp, hLp⟩ : ∃ Lp, Lp = ins ++ outs := ⟨_, rfl⟩
   rw [← hLp] at HI HL HC3 ⊢; clear hLp; go_wp2
   go_loopw [5] (fun x wr => ∃ k : Nat, k ≤ Lp.length ∧ x = .int .i64 (k : Int) ∧ af (wr.cell? ⟨gb, 0, none⟩ = some (.slice A0 nodes.length c0)) ∧ af (Kd.C k94 wr A3 Lp.length Lp) ∧ af (Below w.heap.size w wr))
    (fun x _ => Lp.length - (intOf x).toNat)
   case atStart => exact ⟨0, Nat.zero_le _, rfl, HX3, HC3, HB4⟩
   case round =>
    clear HX3 HC3 HB4; obtain ⟨k, hk, rfl, HX, HC, HB⟩ := hrel
    by_cases hlt : k < Lp.length
    ·obtain ⟨ad, A4, c4, e, x0, x1, hl4, hi4⟩ := qX HC.out (k : Int) (by omega) (by omega); subst e; rw [Int.toNat_natCast] at x0 x1; have hp := HI.out _ (show bG Lp (k : Int) ∈ Lp by rw [Lr Lp k hlt]; exact List.getElem_mem _)
     obtain ⟨p, hpe⟩ : ∃ p, p = bG Lp (k : Int) := ⟨_, rfl⟩
     rw [← hpe] at x0 x1 hl4 hi4 hp; clear hpe; have HP := af.mk hp; have HI4 := af.mk hi4; have HL4 := af.mk hl4
     have z : ((p.f1.length : Int) == 0) = false := by
      rw [beq_eq_false_iff_ne]; intro h; exact hp.1 (List.eq_nil_of_length_eq_zero (by omega))
     clear hp hi4 hl4; go_wp2
     obtain ⟨wo, hwo⟩ : ∃ wo, wo = wr := ⟨_, rfl⟩
     subst hwo
     go_loopw [6] (fun x wq => ∃ j : Nat, j ≤ p.f1.length ∧ x = .int .i64 (j : Int) ∧ af (Below wo.heap.size wo wq))
      (fun x _ => p.f1.length - (intOf x).toNat)
     case atStart => exact ⟨0, Nat.zero_le _, rfl, ⟨Below.refl _ _⟩⟩
     case round =>
      obtain ⟨j, hj, rfl, HQ⟩ := hrel; have y1 := (HQ.out.cell (World.block_lt_of_cell? wo _ x1)).trans x1; have y0 := (HQ.out.cell (World.block_lt_of_cell? wo _ HX.out)).trans HX.out
      by_cases hlj : j < p.f1.length
      ·obtain ⟨a5, e5, y5⟩ := Kd.cZ (Kd.bR HI4.out HQ.out) (j : Int) (by omega) (by omega); subst e5; obtain ⟨a, ha, han⟩ := HP.out.2.2 j hlj; rw [ha, Int.toNat_natCast] at y5; have d1 : decide ((a : Int) < 0) = false := decide_eq_false (by omega); have d2 : decide ((a : Int) ≥ (nodes.length : Int)) = false := decide_eq_false (by omega)
       have d3 : (j : Int) < (p.f1.length : Int) := by omega
       have d4 : (k : Int) < (Lp.length : Int) := by omega
       clear ha x0 x1; go_wp2
       go_quiet (fail)
       go_wp2; have := HP.out.2.1; exact ⟨⟨j + 1, hlj, KQ (by omega), ⟨ah HQ.out _⟩⟩, KR hlj (by omega)⟩
      ·go_wp2; have hL := HL.out.2; exact ⟨⟨k + 1, hlt, KQ (by omega), ⟨y0⟩, ⟨Kd.bR HC.out HQ.out⟩, ⟨aA HB.out HQ.out⟩⟩, KR hlt (by omega)⟩
    ·go_wp2; go_ret; exact ⟨rfl, HB.out⟩
end Go.Proofs.Ytkgeihbcikiedaa.P
